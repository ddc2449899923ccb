
/- Small words for memory, used by all texts of this seat: what a slice reads as in a world, and that it is kept. -/
import Derived.WalkKit
import Derived.WalkSpells
import Derived.WalkLawsBesides
import Derived.Lib.SlBytesConst
namespace Go.Proofs.Ytnbjoebdbbhbkaa
open Go.RowKit
theorem hid {p : Prop} (h : p) : Hid p := h

theorem ret_val {a b : Value} (h : a = b) : Ending.returned a = .returned b := by rw [h]
theorem bx_alloc {a w : World} (h : Below a.heap.size a w) (o : Obj) : Below a.heap.size a (w.alloc o) := h.alloc h.size o
theorem bx_drew {a w : World} (h : Below a.heap.size a w) : Below a.heap.size a w.drew := h.drew
theorem bx_trans {a b c : World} (h : Below a.heap.size a b) (k : Below b.heap.size b c) : Below a.heap.size a c := h.trans (k.mono h.size)
theorem bx_setCell {a w : World} (h : Below a.heap.size a w) {p : Addr} (hp : a.heap.size ≤ p.block) (v : Value) : Below a.heap.size a (w.setCell p v) := h.setCell hp v
/-- A slice's address leads to these cells, below block B. (Nothing is asked of an empty one.) -/
def Rd (w : World) (B : Nat) (A : Option Addr) (xs : List Value) : Prop :=
  xs = [] ∨ ∃ b off, A = some ⟨b, off, none⟩ ∧ b < B ∧ ∀ i v, xs[i]? = some v → w.cell? ⟨b, off + i, none⟩ = some v

theorem Rd.nil (w : World) (B : Nat) (A : Option Addr) : Rd w B A [] := .inl rfl
theorem Rd.keep {w w' : World} {B : Nat} {A : Option Addr} {xs : List Value} (h : Rd w B A xs) (hk : ∀ p : Addr, p.block < B → w'.cell? p = w.cell? p) : Rd w' B A xs := by
  rcases h with h | ⟨b, off, h1, h2, h3⟩
  · exact .inl h
  · exact .inr ⟨b, off, h1, h2, fun i v hv => (hk _ h2).trans (h3 i v hv)⟩
theorem Rd.more {w : World} {B B' : Nat} {A : Option Addr} {xs : List Value} (h : Rd w B A xs) (hB : B ≤ B') : Rd w B' A xs := by
  rcases h with h | ⟨b, off, h1, h2, h3⟩
  · exact .inl h
  · exact .inr ⟨b, off, h1, by omega, h3⟩
theorem Rd.below {w w' : World} {B : Nat} {A : Option Addr} {xs : List Value} (h : Rd w B A xs) (hb : Below B w w') : Rd w' B A xs := h.keep fun _ hp => hb.cell hp
theorem Rd.alloc {w : World} {B : Nat} {A : Option Addr} {xs : List Value} (h : Rd w B A xs) (hB : B ≤ w.heap.size) (o : Obj) : Rd (w.alloc o) B A xs :=
  h.keep fun p hp => World.cell?_alloc_lt w o p (by omega)
theorem Rd.at_ {w : World} {B : Nat} {A : Option Addr} {xs : List Value} (h : Rd w B A xs) {k : Nat} (hk : k < xs.length) :
    ∃ b off, A = some ⟨b, off, none⟩ ∧ b < B ∧ ∀ i v, xs[i]? = some v → w.cell? ⟨b, off + i, none⟩ = some v := by
  rcases h with h | h
  · subst h; simp at hk
  · exact h

/-- A byte's cell. -/
def cb (x : UInt8) : Value := .int .u8 (x.toNat : Int)
/-- The value is a slice of bytes that reads as these. -/
def RdB (w : World) (B : Nat) (v : Value) (l : List UInt8) : Prop := ∃ A c, v = .slice A l.length c ∧ l.length ≤ c ∧ Rd w B A (l.map cb)
theorem RdB.keep {w w' : World} {B : Nat} {v : Value} {l : List UInt8} (h : RdB w B v l) (hk : ∀ p : Addr, p.block < B → w'.cell? p = w.cell? p) : RdB w' B v l := by
  obtain ⟨A, c, h1, h2, h3⟩ := h
  exact ⟨A, c, h1, h2, h3.keep hk⟩
theorem RdB.below {w w' : World} {B : Nat} {v : Value} {l : List UInt8} (h : RdB w B v l) (hb : Below B w w') : RdB w' B v l := h.keep fun _ hp => hb.cell hp
theorem RdB.more {w : World} {B B' : Nat} {v : Value} {l : List UInt8} (h : RdB w B v l) (hB : B ≤ B') : RdB w B' v l := by
  obtain ⟨A, c, h1, h2, h3⟩ := h
  exact ⟨A, c, h1, h2, h3.more hB⟩
/-- The address leads to cells that are slices of bytes, which read as these. -/
def RdBB (w : World) (B : Nat) (A : Option Addr) (ls : List (List UInt8)) : Prop :=
  ls = [] ∨ ∃ b off, A = some ⟨b, off, none⟩ ∧ b < B ∧ ∀ i l, ls[i]? = some l → ∃ v, w.cell? ⟨b, off + i, none⟩ = some v ∧ RdB w B v l
theorem RdBB.keep {w w' : World} {B : Nat} {A : Option Addr} {ls : List (List UInt8)} (h : RdBB w B A ls) (hk : ∀ p : Addr, p.block < B → w'.cell? p = w.cell? p) : RdBB w' B A ls := by
  rcases h with h | ⟨b, off, h1, h2, h3⟩
  · exact .inl h
  · refine .inr ⟨b, off, h1, h2, fun i l hl => ?_⟩
    obtain ⟨v, hv, hr⟩ := h3 i l hl
    exact ⟨v, (hk _ h2).trans hv, hr.keep hk⟩
theorem RdBB.below {w w' : World} {B : Nat} {A : Option Addr} {ls : List (List UInt8)} (h : RdBB w B A ls) (hb : Below B w w') : RdBB w' B A ls := h.keep fun _ hp => hb.cell hp
theorem RdBB.at_ {w : World} {B : Nat} {A : Option Addr} {ls : List (List UInt8)} (h : RdBB w B A ls) {k : Nat} (hk : k < ls.length) :
    ∃ b off A' c, A = some ⟨b, off, none⟩ ∧ b < B ∧ w.cell? ⟨b, off + k, none⟩ = some (.slice A' ls[k].length c) ∧ ls[k].length ≤ c ∧ Rd w B A' (ls[k].map cb) := by
  rcases h with h | ⟨b, off, h1, h2, h3⟩
  · subst h; simp at hk
  · obtain ⟨v, hv, A', c, rfl, hc, hr⟩ := h3 k ls[k] (List.getElem?_eq_getElem hk)
    exact ⟨b, off, A', c, h1, h2, hv, hc, hr⟩

/-! ### Blocks that are known whole -/
/-- Block g is just these cells, of element type t, none frozen. -/
def Blk (w : World) (g : Nat) (t : TypeId) (cs : Array Value) : Prop := w.heap[g]? = some (.cells cs t (0, 0))
theorem Blk.lt {w : World} {g : Nat} {t : TypeId} {cs : Array Value} (h : Blk w g t cs) : g < w.heap.size := (Array.getElem?_eq_some_iff.1 h).1
theorem Blk.cell {w : World} {g : Nat} {t : TypeId} {cs : Array Value} (h : Blk w g t cs) (i : Nat) : w.cell? ⟨g, i, none⟩ = cs[i]? := cell_of_row w g i cs t (0, 0) h
theorem Blk.frozen {w : World} {g : Nat} {t : TypeId} {cs : Array Value} (h : Blk w g t cs) (i : Nat) : w.frozen? ⟨g, i, none⟩ = false := frozen_of_row w g i cs t h
theorem Blk.below {w w' : World} {B g : Nat} {t : TypeId} {cs : Array Value} (h : Blk w g t cs) (hb : Below B w w') (hg : g < B) : Blk w' g t cs := (hb.block g hg).trans h
theorem Blk.alloc {w : World} {g : Nat} {t : TypeId} {cs : Array Value} (h : Blk w g t cs) (o : Obj) : Blk (w.alloc o) g t cs := (Below.heap_alloc w o g h.lt).trans h
theorem Blk.new (w : World) (t : TypeId) (cs : Array Value) : Blk (w.alloc (.cells cs t)) w.heap.size t cs := heap_alloc_new w _
theorem Blk.drew {w : World} {g : Nat} {t : TypeId} {cs : Array Value} (h : Blk w g t cs) : Blk w.drew g t cs := h

/-- w1 is w but for block g, which holds these cells now. -/
structure Put (w w1 : World) (g : Nat) (t : TypeId) (cs : Array Value) : Prop where
  blk : Blk w1 g t cs
  oth : ∀ k, k ≠ g → w1.heap[k]? = w.heap[k]?
  size : w1.heap.size = w.heap.size
  os : w1.os = w.os
  tape : w1.tape = w.tape
  output : w1.output = w.output
theorem Put.below {w w1 : World} {g : Nat} {t : TypeId} {cs : Array Value} (h : Put w w1 g t cs) {B : Nat} (hB : B ≤ g) : Below B w w1 :=
  ⟨h.os, h.tape, h.output, Nat.le_of_eq h.size.symm, fun k hk => h.oth k (by omega)⟩
theorem bx_put {a w w1 : World} {g : Nat} {t : TypeId} {cs : Array Value} (h : Below a.heap.size a w) (p : Put w w1 g t cs) (hg : a.heap.size ≤ g) : Below a.heap.size a w1 := h.trans (p.below hg)
theorem Put.other {w w1 : World} {g : Nat} {t : TypeId} {cs : Array Value} (h : Put w w1 g t cs) {g' : Nat} {t' : TypeId} {cs' : Array Value} (hb : Blk w g' t' cs') (hne : g' ≠ g) : Blk w1 g' t' cs' := (h.oth g' hne).trans hb
theorem setRow_put {w : World} {g : Nat} {t : TypeId} {cur : Array Value} (h : Blk w g t cur) (cs : Array Value) : Put w (w.setRow g cs) g t cs := by
  have hlt := h.lt
  refine ⟨?_, fun k hk => ?_, by simp, rfl, rfl, rfl⟩
  · unfold Blk at h ⊢
    simp [World.setRow, Array.getElem?_modify, h]
  · simp [World.setRow, Array.getElem?_modify, Ne.symm hk]
theorem setCell_put {w : World} {g i : Nat} {t : TypeId} {cur : Array Value} (h : Blk w g t cur) (v : Value) : Put w (w.setCell ⟨g, i, none⟩ v) g t (cur.setIfInBounds i v) := by
  refine ⟨heap_setCell_same w g i cur t v h, fun k hk => heap_setCell_other w _ k v hk, by simp [World.setCell], rfl, rfl, rfl⟩

/-! ### Whole arrays and structs: read out of, and written into, a row of cells -/
/-- Type ty is an array or a struct of n cells. -/
def AggT (P : Program) (ty n : Nat) : Prop := ∀ w, (isAgg ty).run P w = .ok true w ∧ (sizeOf ty).run P w = .ok n w
theorem aggT_of {P : Program} {ty n : Nat} {d : TypeDesc} (hu : P.underlying ty = some d) (hd : (match d with | .struct _ | .array _ _ => true | _ => false) = true) (hi : (P.info? ty).map (·.size) = some n) : AggT P ty n := by
  intro w
  constructor
  · unfold isAgg
    rw [Sem.run_bind, run_underlying hu w]
    cases d <;> simp_all
  · cases hq : P.info? ty with
    | none => simp [hq] at hi
    | some i =>
      have hs : i.size = n := by simpa [hq] using hi
      simp [sizeOf, typeInfo, hq, hs]
theorem add_off (g off j : Nat) : (⟨g, off, none⟩ : Addr).add j = ⟨g, off + j, none⟩ := by unfold Addr.add; split <;> simp_all
theorem run_load_agg {P : Program} {ty : Nat} {w : World} {g off : Nat} {cs : List Value} (hT : AggT P ty cs.length) (hc : ∀ j v, cs[j]? = some v → w.cell? ⟨g, off + j, none⟩ = some v) :
    (loadVar ty ⟨g, off, none⟩).run P w = .ok (.agg cs.toArray) w := by
  have hl := run_loadCells_list (P := P) w ⟨g, off, none⟩ cs (fun j v hv => by rw [add_off]; exact hc j v hv)
  simp [loadVar, Sem.run_bind, (hT w).1, (hT w).2, hl]
theorem wpList_load_agg {P : Program} {ops : Array Oper} {rest : List Oper} {o : Oper} {a : Act} {w : World} {Q : Exit → Act → World → Prop} (hgd : o.guard = none) (ty : TypeId) (x : Operand) (ho : o.op = .load ty x)
    (g off : Nat) (hx : a.eval x = .pointer (some ⟨g, off, none⟩)) (cs : List Value) (hT : AggT P ty cs.length) (hc : ∀ j v, cs[j]? = some v → w.cell? ⟨g, off + j, none⟩ = some v)
    (h : wpList P ops Q rest (a.put o.dst (.agg cs.toArray)) w) : wpList P ops Q (o :: rest) a w :=
  wpList_plain hgd fun _ hK => by
    unfold Oper.wp execOp
    simp only [ho, hx, Instr.loadAt, Instr.sureAddr, Sem.run_bind, Sem.run_pure, Result.andThen_ok, run_load_agg hT hc]
    exact hK _ _ h
/-- Behind a whole array is written at place off. -/
def spl (cur : Array Value) (off : Nat) (vs : List Value) : Array Value := (cur.toList.take off ++ vs ++ cur.toList.drop (off + vs.length)).toArray
theorem run_store_agg {P : Program} {ty : Nat} {w : World} {g off : Nat} {t : TypeId} {cur vs : Array Value} (hT : AggT P ty vs.size) (hb : Blk w g t cur) (hl : off + vs.size ≤ cur.size) (h1 : ∀ v ∈ vs.toList, v.oneCell' = true) :
    (storeVar ty ⟨g, off, none⟩ (.agg vs)).run P w = .ok () (w.setRow g (spl cur off vs.toList)) := by
  have h := run_storeCells_at (P := P) g off t vs.toList 0 cur w hb (by simpa using hl) h1
  simp [storeVar, Sem.run_bind, (hT w).2, Value.cells, h, spl]
theorem wpList_store_agg {P : Program} {ops : Array Oper} {rest : List Oper} {o : Oper} {a : Act} {w : World} {Q : Exit → Act → World → Prop} (hgd : o.guard = none) (ty : TypeId) (x y : Operand) (ho : o.op = .store ty x y)
    (g off : Nat) (hx : a.eval x = .pointer (some ⟨g, off, none⟩)) (vs : Array Value) (hy : a.eval y = .agg vs) (hT : AggT P ty vs.size) {t : TypeId} {cur : Array Value} (hb : Blk w g t cur) (hl : off + vs.size ≤ cur.size)
    (h1 : ∀ v ∈ vs.toList, v.oneCell' = true) (h : ∀ w1, Put w w1 g t (spl cur off vs.toList) → wpList P ops Q rest (a.put o.dst undef) w1) : wpList P ops Q (o :: rest) a w :=
  wpList_plain hgd fun _ hK => by
    unfold Oper.wp execOp
    simp only [ho, hx, hy, Instr.storeAt, Instr.sureAddr, Sem.run_bind, Sem.run_pure, Result.andThen_ok, run_store_agg hT hb hl h1]
    exact hK _ _ (h _ (setRow_put hb _))
/-- A named result that lies in memory. -/
theorem results_agg {P : Program} {fn : Func} {p : Tmp} {ty : TypeId} (h : fn.results = #[.cell p ty]) {tmps : Array Value} {w : World} {g off : Nat} {cs : List Value}
    (hp : tmps.getD p undef = .pointer (some ⟨g, off, none⟩)) (hT : AggT P ty cs.length) (hc : ∀ j v, cs[j]? = some v → w.cell? ⟨g, off + j, none⟩ = some v) :
    (results fn tmps).run P w = .ok (.agg cs.toArray) w := by
  have hp' : tmps[p]?.getD undef = .pointer (some ⟨g, off, none⟩) := by simpa using hp
  simp [results, h, hp', asAddr, run_load_agg hT hc]
/-- A whole block read as one value. -/
theorem blk_cells {w : World} {g : Nat} {t : TypeId} {cs : Array Value} (h : Blk w g t cs) : ∀ j v, cs.toList[j]? = some v → w.cell? ⟨g, 0 + j, none⟩ = some v := by
  intro j v hv
  rw [Nat.zero_add, h.cell]
  simpa using hv
theorem spl_whole {cur vs : Array Value} (h : cur.size = vs.size) : spl cur 0 vs.toList = vs := by
  unfold spl
  have : cur.toList.drop (0 + vs.toList.length) = [] := by simp; omega
  rw [this]; simp

/-- '[]byte("..")' of a constant. -/
theorem conv_const {P : Program} {t e : TypeId} (ht : P.underlying t = some (.slice e)) (he : P.underlying e = some (.int .u8)) (w : World) (g : Nat) (hg : g = w.heap.size) (C : Array Value) (n c : Nat) :
    (convert t t (.slice (some ⟨g, 0, none⟩) n c)).run P (w.alloc (.cells C e)) = .ok (.slice (some ⟨g, 0, none⟩) n c) (w.alloc (.cells C e (C.size, C.size + 1))) := by
  subst hg
  exact Lib.run_convert_bytes_const w t e C n c ht he

/-! ### Rows that were just laid -/
theorem heap_new {w : World} {o : Obj} {g : Nat} (hg : g = w.heap.size) : (w.alloc o).heap[g]? = some o := by subst hg; exact heap_alloc_new w o
theorem heap_old {w : World} {o o' : Obj} {g : Nat} (h : w.heap[g]? = some o') : (w.alloc o).heap[g]? = some o' :=
  (Below.heap_alloc w o g (Array.getElem?_eq_some_iff.1 h).1).trans h
theorem rd_of_row {w : World} {g : Nat} {t : TypeId} {fr : Nat × Nat} {cs : Array Value} {xs : List Value} (hg : w.heap[g]? = some (.cells cs t fr)) (hx : cs.toList = xs) : Rd w w.heap.size (some ⟨g, 0, none⟩) xs := by
  refine .inr ⟨g, 0, rfl, (Array.getElem?_eq_some_iff.1 hg).1, fun i v hv => ?_⟩
  rw [Nat.zero_add, cell_of_row w g i cs t fr hg]
  subst hx
  simpa using hv
theorem rdB_of_row {w : World} {g : Nat} {t : TypeId} {fr : Nat × Nat} {cs : Array Value} {l : List UInt8} {n c : Nat} (hg : w.heap[g]? = some (.cells cs t fr)) (hx : cs.toList = l.map cb) (hn : n = l.length) (hc : l.length ≤ c) :
    RdB w w.heap.size (.slice (some ⟨g, 0, none⟩) n c) l := ⟨_, c, by rw [hn], hc, rd_of_row hg hx⟩
theorem rdB_nil (w : World) (B : Nat) (A : Option Addr) (c : Nat) : RdB w B (.slice A 0 c) [] := ⟨A, c, rfl, Nat.zero_le _, .inl rfl⟩
/-- A row of slices of bytes, each reading as told. -/
theorem rdBB_of_row {w : World} {g : Nat} {t : TypeId} {fr : Nat × Nat} {cs : Array Value} {ls : List (List UInt8)} (hg : w.heap[g]? = some (.cells cs t fr)) (hs : cs.size = ls.length)
    (h : ∀ (i : Nat) (v : Value) (l : List UInt8), cs[i]? = some v → ls[i]? = some l → RdB w w.heap.size v l) : RdBB w w.heap.size (some ⟨g, 0, none⟩) ls := by
  refine .inr ⟨g, 0, rfl, (Array.getElem?_eq_some_iff.1 hg).1, fun i l hl => ?_⟩
  have hi : i < cs.size := by rw [hs]; exact (List.getElem?_eq_some_iff.1 hl).1
  have hv : cs[i]? = some cs[i] := Array.getElem?_eq_getElem hi
  exact ⟨cs[i], by rw [Nat.zero_add, cell_of_row w g i cs t fr hg, hv], h i _ l hv hl⟩
/-- 'string(b)'. -/
theorem conv_str {P : Program} {src dst e : TypeId} (hs : P.underlying src = some (.slice e)) (he : P.underlying e = some (.int .u8)) (hd : P.underlying dst = some .string) {w : World} {B : Nat} {A : Option Addr} {l : List UInt8} (c : Nat)
    (hr : Rd w B A (l.map cb)) : (convert src dst (.slice A l.length c)).run P w = .ok (.string ⟨l.toArray⟩) w := by
  rcases hr with h | ⟨b, off, rfl, _, hc⟩
  · have : l = [] := by simpa using h
    subst this
    cases A with
    | none => exact run_convert_bytes_nil w src e hs he _ _ dst hd
    | some a => exact run_convert_bytes_back w src dst e a c [] hs he hd (fun j hj => by simp at hj)
  · exact run_convert_bytes_back w src dst e _ c l hs he hd (fun j hj => by
      rw [add_off]
      exact hc j _ (by simp [hj, cb]))

/-! ### Pieces of a slice -/
theorem Rd.take {w : World} {B : Nat} {A : Option Addr} {xs : List Value} (h : Rd w B A xs) (k : Nat) : Rd w B A (xs.take k) := by
  rcases h with h | ⟨b, off, h1, h2, h3⟩
  · subst h; simp [Rd]
  · refine .inr ⟨b, off, h1, h2, fun i v hv => h3 i v ?_⟩
    rw [List.getElem?_take] at hv
    split at hv
    · exact hv
    · cases hv
theorem Rd.drop {w : World} {B : Nat} {A : Option Addr} {xs : List Value} (h : Rd w B A xs) {k c : Nat} (hc : xs.length ≤ c) : Rd w B (if c = k then A else A.map (fun x => x.add k)) (xs.drop k) := by
  by_cases hk : xs.length ≤ k
  · exact .inl (List.drop_eq_nil_of_le hk)
  · rw [if_neg (by omega)]
    rcases h with h | ⟨b, off, h1, h2, h3⟩
    · subst h; simp at hk
    · subst h1
      refine .inr ⟨b, off + k, by simp [add_off], h2, fun i v hv => ?_⟩
      rw [List.getElem?_drop] at hv
      rw [Nat.add_assoc]
      exact h3 _ v hv
theorem RdB.take {w : World} {B : Nat} {A : Option Addr} {c : Nat} {l : List UInt8} (h : Rd w B A (l.map cb)) (hc : l.length ≤ c) {k : Nat} (hk : k ≤ l.length) : RdB w B (.slice A k c) (l.take k) :=
  ⟨A, c, by rw [List.length_take, Nat.min_eq_left hk], by rw [List.length_take]; omega, by rw [List.map_take]; exact h.take k⟩
theorem RdB.drop {w : World} {B : Nat} {A : Option Addr} {c : Nat} {l : List UInt8} (h : Rd w B A (l.map cb)) (hc : l.length ≤ c) (k : Nat) :
    RdB w B (.slice (if c = k then A else A.map (fun x => x.add k)) (l.length - k) (c - k)) (l.drop k) :=
  ⟨_, c - k, by rw [List.length_drop], by rw [List.length_drop]; omega, by rw [List.map_drop]; exact h.drop (by simpa using hc)⟩
theorem RdB.of {w : World} {B : Nat} {A : Option Addr} {c : Nat} {l : List UInt8} (h : Rd w B A (l.map cb)) (hc : l.length ≤ c) : RdB w B (.slice A l.length c) l := ⟨A, c, rfl, hc, h⟩
theorem RdB.alloc {w : World} {B : Nat} {v : Value} {l : List UInt8} (h : RdB w B v l) (hB : B ≤ w.heap.size) (o : Obj) : RdB (w.alloc o) B v l := h.keep fun p hp => World.cell?_alloc_lt w o p (by omega)
theorem RdBB.alloc {w : World} {B : Nat} {A : Option Addr} {ls : List (List UInt8)} (h : RdBB w B A ls) (hB : B ≤ w.heap.size) (o : Obj) : RdBB (w.alloc o) B A ls := h.keep fun p hp => World.cell?_alloc_lt w o p (by omega)
theorem RdBB.more {w : World} {B B' : Nat} {A : Option Addr} {ls : List (List UInt8)} (h : RdBB w B A ls) (hB : B ≤ B') : RdBB w B' A ls := by
  rcases h with h | ⟨b, off, h1, h2, h3⟩
  · exact .inl h
  · refine .inr ⟨b, off, h1, by omega, fun i l hl => ?_⟩
    obtain ⟨v, hv, hr⟩ := h3 i l hl
    exact ⟨v, hv, hr.more hB⟩
/-- A new row of one slice, of two. -/
theorem rdBB_one {w : World} {B : Nat} {v : Value} {l : List UInt8} {t : TypeId} (h : RdB w B v l) (hB : B ≤ w.heap.size) : RdBB (w.alloc (.cells #[v] t)) (w.alloc (.cells #[v] t)).heap.size (some ⟨w.heap.size, 0, none⟩) [l] := by
  refine rdBB_of_row (heap_new rfl) rfl fun i u m hu hm => ?_
  rcases i with _ | i
  · simp at hu hm
    subst hu hm
    exact (h.alloc hB _).more (by simp; omega)
  · simp at hm
theorem rdBB_two {w : World} {B : Nat} {v v' : Value} {l l' : List UInt8} {t : TypeId} (h : RdB w B v l) (h' : RdB w B v' l') (hB : B ≤ w.heap.size) : RdBB (w.alloc (.cells #[v, v'] t)) (w.alloc (.cells #[v, v'] t)).heap.size (some ⟨w.heap.size, 0, none⟩) [l, l'] := by
  refine rdBB_of_row (heap_new rfl) rfl fun i u m hu hm => ?_
  rcases i with _ | _ | i
  · simp at hu hm
    subst hu hm
    exact (h.alloc hB _).more (by simp; omega)
  · simp at hu hm
    subst hu hm
    exact (h'.alloc hB _).more (by simp; omega)
  · simp at hm

/-! ### One operation, by its run -/
theorem wpList_val {P : Program} {ops : Array Oper} {rest : List Oper} {o : Oper} {a : Act} {w w' : World} {Q : Exit → Act → World → Prop} {v : Value} (hgd : o.guard = none) (hrun : (execOp a.eval o).run P w = .ok (.value v) w')
    (h : wpList P ops Q rest (a.put o.dst v) w') : wpList P ops Q (o :: rest) a w :=
  wpList_plain hgd fun _ hK => by
    unfold Oper.wp
    rw [hrun]
    exact hK _ _ h
theorem min3 {P : Program} (ts : Array TypeId) (t : TypeId) (bs : Array Bool) (x y z n : Nat) (w : World) (hn : n = min (min x y) z) : (builtin .min ts t bs #[.int .i64 x, .int .i64 y, .int .i64 z]).run P w = .ok (.value (.int .i64 n)) w := by
  have h := run_min_int3 (P := P) (w := w) ts t .i64 .i64 .i64 x y z
  have e : (if (z : Int) < (if (y : Int) < x then (y : Int) else x) then (z : Int) else (if (y : Int) < x then (y : Int) else x)) = (n : Int) := by
    subst hn
    split <;> split at * <;> omega
  rw [e] at h
  simp only [builtin, Sem.run_bind, h, Result.andThen_ok, Sem.run_pure]
theorem wpList_min3 {P : Program} {ops : Array Oper} {rest : List Oper} {o : Oper} {a : Act} {w : World} {Q : Exit → Act → World → Prop} (hgd : o.guard = none) (x y z : Operand) (ts : Array TypeId) (ho : o.op = .call { callee := .builtin .min, args := #[x, y, z], argTypes := ts })
    (p q r n : Nat) (hx : a.eval x = .int .i64 p) (hy : a.eval y = .int .i64 q) (hz : a.eval z = .int .i64 r) (hn : n = min (min p q) r) (h : wpList P ops Q rest (a.put o.dst (.int .i64 n)) w) : wpList P ops Q (o :: rest) a w := by
  refine wpList_val hgd ?_ h
  unfold execOp
  simp only [ho, resolve, invoke, Sem.run_bind, Sem.run_pure, Result.andThen_ok, List.map_toArray, List.map_cons, List.map_nil, hx, hy, hz]
  exact min3 _ _ _ p q r n w hn

/-! ### New variables -/
/-- The zero value of type e has these cells. -/
def ZeroT (P : Program) (e : Nat) (z : Value) : Prop := ∀ w, (zeroValue e).run P w = .ok z w
theorem zeroT_of {P : Program} {e : Nat} {z : Value} (h : (P.info? e).map (·.zero) = some (some z)) : ZeroT P e z := by
  intro w
  cases hq : P.info? e with
  | none => simp [hq] at h
  | some i =>
    have hz : i.zero = some z := by simpa [hq] using h
    simp [zeroValue, typeInfo, hq, hz]
theorem wpList_alloc {P : Program} {ops : Array Oper} {rest : List Oper} {o : Oper} {a : Act} {w : World} {Q : Exit → Act → World → Prop} (hgd : o.guard = none) (e : TypeId) (ho : o.op = .alloc e) {z : Value} (hz : ZeroT P e z)
    (h : ∀ g w1, w.heap.size ≤ g → g < w1.heap.size → Blk w1 g e z.cells → Below w.heap.size w w1 → wpList P ops Q rest (a.put o.dst (.pointer (some ⟨g, 0, none⟩))) w1) : wpList P ops Q (o :: rest) a w := by
  refine wpList_val (w' := w.alloc (.cells z.cells e)) hgd ?_ (h w.heap.size _ (Nat.le_refl _) (by simp) (Blk.new w e z.cells) (bx_alloc (Below.refl _ _) _))
  unfold execOp
  simp [ho, Instr.alloc, hz w, newVar, newRow]
theorem gives_alloc_run {P : Program} {o : Oper} {a : Act} {w : World} (e : TypeId) (ho : o.op = .alloc e) {z : Value} (hz : ZeroT P e z) :
    (execOp a.eval o).run P w = .ok (.value (.pointer (some ⟨w.heap.size, 0, none⟩))) (w.alloc (.cells z.cells e)) := by
  unfold execOp
  simp [ho, Instr.alloc, hz w, newVar, newRow]
end Go.Proofs.Ytnbjoebdbbhbkaa
