
/- Structs and slice literals that are built of parts, whose cells nobody reckons. -/
import Derived.Test.YtnbjoebdbbhbkaaOwn
import Derived.Test.YtnbjoebdbbhbkaaFlow
import Derived.Great.BuildSlice
namespace Go.Proofs.Ytnbjoebdbbhbkaa
open Go.RowKit

theorem foldl_seg (off : Nat) : ∀ (l : List Value) (s : Nat) (cs : Array Value), off + s + l.length ≤ cs.size →
    ((l.zipIdx s).foldl (fun cs (x : Value × Nat) => cs.setIfInBounds (off + x.2) x.1) cs).toList = cs.toList.take (off + s) ++ l ++ cs.toList.drop (off + s + l.length)
  | [], s, cs, _ => by simp
  | c :: l, s, cs, h => by
    simp only [List.length_cons] at h
    have ih := foldl_seg off l (s + 1) (cs.setIfInBounds (off + s) c) (by simp; omega)
    simp only [List.zipIdx_cons, List.foldl_cons]
    rw [ih, Array.toList_setIfInBounds]
    have e := list_seg_step cs.toList (off + s) c l (by simp; omega)
    simpa [Nat.add_assoc] using e
/-- Places side by side. -/
def seqPlaces : Nat → List Nat → List (Nat × Nat)
  | _, [] => []
  | off, n :: ns => (off, n) :: seqPlaces (off + n) ns
def flat (vs : List Value) : List Value := vs.flatMap fun v => v.cells.toList
theorem seqPlaces_get : ∀ (ns : List Nat) (off i : Nat) (n : Nat), ns[i]? = some n → (seqPlaces off ns)[i]? = some (off + (ns.take i).sum, n)
  | [], _, i, n, h => by simp at h
  | m :: ns, off, 0, n, h => by
    simp at h
    subst h
    simp [seqPlaces]
  | m :: ns, off, i + 1, n, h => by
    have := seqPlaces_get ns (off + m) i n (by simpa using h)
    simp only [seqPlaces, List.getElem?_cons_succ, List.take_succ_cons, List.sum_cons, this]
    rw [Nat.add_assoc]
theorem fill_seq (place : Nat → Option (Nat × Nat)) : ∀ (vs : List Value) (i0 off : Nat) (cells : Array Value), (∀ j v, vs[j]? = some v → place (i0 + j) = some (off + ((vs.take j).map fun v => v.cells.size).sum, v.cells.size)) → off + (flat vs).length ≤ cells.size →
    ∃ r, Instr.fill place cells ((vs.zipIdx i0).map fun x => (x.2, x.1)) = some r ∧ r.toList = cells.toList.take off ++ flat vs ++ cells.toList.drop (off + (flat vs).length)
  | [], i0, off, cells, _, _ => ⟨cells, rfl, by simp [flat]⟩
  | v :: vs, i0, off, cells, hp, hl => by
    have h0 := hp 0 v rfl
    simp only [Nat.add_zero, List.take_zero, List.map_nil, List.sum_nil] at h0
    have hfl : (flat (v :: vs)).length = v.cells.size + (flat vs).length := by simp [flat]
    have hs := foldl_seg off v.cells.toList 0 cells (by simp; omega)
    have hsz : ((v.cells.toList.zipIdx 0).foldl (fun cs (x : Value × Nat) => cs.setIfInBounds (off + x.2) x.1) cells).size = cells.size := (Great.foldl_set off v.cells.toList 0 cells).1
    obtain ⟨r, h1, h2⟩ := fill_seq place vs (i0 + 1) (off + v.cells.size) ((v.cells.toList.zipIdx 0).foldl (fun cs (x : Value × Nat) => cs.setIfInBounds (off + x.2) x.1) cells) (fun j u hu => by
      have := hp (j + 1) u (by simpa using hu)
      simp only [List.take_succ_cons, List.map_cons, List.sum_cons] at this
      rw [show i0 + 1 + j = i0 + (j + 1) by omega, this]
      congr 2
      omega) (by rw [hsz]; omega)
    refine ⟨r, ?_, ?_⟩
    · simp only [List.zipIdx_cons, List.map_cons]
      unfold Instr.fill
      simp only [h0]
      rw [if_neg (by simp; omega), ← h1]
      congr 1
      rw [← Array.foldl_toList, Array.toList_zipIdx]
    · rw [h2, hs]
      simp only [Nat.add_zero, Array.length_toList]
      have e1 : (cells.toList.take off ++ v.cells.toList ++ cells.toList.drop (off + v.cells.size)).take (off + v.cells.size) = cells.toList.take off ++ v.cells.toList := by
        rw [List.take_append_of_le_length (by simp; omega)]
        exact List.take_of_length_le (by simp; omega)
      have e2 : (cells.toList.take off ++ v.cells.toList ++ cells.toList.drop (off + v.cells.size)).drop (off + v.cells.size + (flat vs).length) = cells.toList.drop (off + (v.cells.size + (flat vs).length)) := by
        rw [List.drop_append, List.drop_eq_nil_of_le (by simp; omega), List.nil_append, List.drop_drop]
        congr 1
        simp
        omega
      rw [e1, e2, hfl]
      simp [flat]
/-- What a struct's literal is. -/
theorem built_struct {P : Program} {t : Nat} {fields : Array Field} {z : Value} {vs : List Value} {sizes : List Nat} (hu : P.underlying t = some (.struct fields)) (hz : (P.info? t).map (·.zero) = some (some z))
    (hp : fields.toList.mapM (fun f => (P.info? f.type).map fun i => (f.offset, i.size)) = some (seqPlaces 0 sizes)) (hs : vs.map (fun v => v.cells.size) = sizes) (hl : (flat vs).length = z.cells.size) :
    P.built t ((vs.zipIdx 0).map fun x => (x.2, x.1)) = some (flat vs).toArray := by
  cases hq : P.info? t with
  | none => simp [hq] at hz
  | some i =>
    have hz' : i.zero = some z := by simpa [hq] using hz
    obtain ⟨r, h1, h2⟩ := fill_seq (fun x => (seqPlaces 0 sizes)[x]?) vs 0 0 z.cells (fun j v hv => by
      rw [Nat.zero_add]
      subst hs
      have := seqPlaces_get (vs.map fun v => v.cells.size) 0 j v.cells.size (by simp [hv])
      rw [← List.map_take] at this
      exact this) (by omega)
    have hr : r = (flat vs).toArray := by
      apply Array.toList_inj.1
      rw [h2]
      simp only [List.take_zero, List.nil_append, Nat.zero_add]
      rw [List.drop_eq_nil_of_le (by simp; omega), List.append_nil]
    unfold Program.built
    simp only [hq, hu, hz', hp]
    rw [← hr, ← h1]
    congr 1
    funext x
    simp
section
variable {P : Program} {o : Oper} {a : Act} {w : World} {S : Value → World → Prop}
theorem gives_load_agg (ty : TypeId) (x : Operand) (ho : o.op = .load ty x) (g off : Nat) (hx : a.eval x = .pointer (some ⟨g, off, none⟩)) (cs : List Value) (hT : AggT P ty cs.length) (hc : ∀ j v, cs[j]? = some v → w.cell? ⟨g, off + j, none⟩ = some v)
    (h : S (.agg cs.toArray) w) : gives P o a w S := by
  refine gives_val (v := .agg cs.toArray) (w' := w) ?_ h
  unfold execOp
  simp only [ho, hx, Instr.loadAt, Instr.sureAddr, Sem.run_bind, Sem.run_pure, Result.andThen_ok, run_load_agg hT hc]
theorem gives_build (t : TypeId) (parts : Array (Nat × Operand)) (ho : o.op = .build t parts) (vs : List Value) (hv : (parts.map fun (i, x) => (i, a.eval x)).toList = (vs.zipIdx 0).map fun x => (x.2, x.1)) {cells : Array Value} (hb : P.built t ((vs.zipIdx 0).map fun x => (x.2, x.1)) = some cells)
    (h : S (.agg cells) w) : gives P o a w S := by
  refine gives_val (v := .agg cells) (w' := w) ?_ h
  unfold execOp
  rw [← hv] at hb
  simp only [ho, Sem.run_bind, run_build w t _ cells hb, Result.andThen_ok, Sem.run_pure]
theorem gives_appK {e size n : Nat} (s x : Operand) (t : TypeId) (ho : o.op = .call { callee := .builtin .append, args := #[s, x], argTypes := #[t, t] })
    (v : Value) (hs : a.eval s = v) (A : Option Addr) (m c : Nat) (hx : a.eval x = .slice A m c) {base bytes B : Nat} {zs : Array Value} {xs news : List Value} (E : ElT P t e size bytes zs) (hown : w.ownsRow base e size v n xs) (hr : Rd w B A news) (hl : news.length = m * size) (h1 : ∀ u ∈ news, u.oneCell' = true)
    (h63 : n + m ≤ maxLen) (hbytes : (n + m) * bytes ≤ 140737488355328) (hbase : base ≤ w.heap.size)
    (h : ∀ v' w', w'.ownsRow base e size v' (n + m) (xs ++ news) → w.grownBy w' v.ownBlock → (v'.ownBlock = v.ownBlock ∨ v'.ownBlock = some w.heap.size) → S v' w') : gives P o a w S := by
  obtain ⟨v', w', hrun, h2, h3, h4⟩ := gives_app (P := P) (o := o) (a := a) s x t ho v hs A m c hx E hown hr hl h1 h63 hbytes hbase
  exact gives_val hrun (h v' w' h2 h3 h4)
/-- A slice literal of one part, of many cells. -/
theorem gives_slice1 (t : TypeId) (x : Operand) (ho : o.op = .buildSlice t 1 #[(0, x)]) (v : Value) (hx : a.eval x = v) {e size bytes : Nat} {zs : Array Value} (E : ElT P t e size bytes zs) (hs : v.cells.size = size) (hsmall : size ≤ 2 ^ 24)
    (h : S (.slice (some ⟨w.heap.size, 0, none⟩) 1 1) (w.alloc (.cells v.cells e))) : gives P o a w S := by
  obtain ⟨i, z, hi, hz, hsz, hb, hzz⟩ := E.info
  have hpos := E.pos
  have hf := Great.fill_whole (s := size) hpos [v] ((Array.range (1 * size)).map (z.cells[· % z.cells.size]!)) (fun u hu => by simp at hu; subst hu; exact hs) (by simp)
  have hrun := run_buildSlice (P := P) w t e 1 #[(0, v)] v.cells i z E.under hi hz (by rw [hsz]; omega) (by rw [hsz]; omega) (by
    rw [hsz]
    refine hf.trans ?_
    simp)
  refine gives_val ?_ h
  unfold execOp
  simp only [ho, Sem.run_bind]
  have e1 : (#[(0, x)] : Array (Nat × Operand)).map (fun (i, x) => (i, a.eval x)) = #[(0, v)] := by simp [hx]
  rw [e1, hrun]
  simp
end
/-- The value is a slice of so many, whose cells read as these. -/
def FP.sl (n : Nat) (xs : List Value) : FP := ⟨fun v w => ∃ A c, v = .slice A n c ∧ Rd w w.heap.size A xs, fun _ _ _ hb h => by
  obtain ⟨A, c, h1, h2⟩ := h
  exact ⟨A, c, h1, (h2.below hb).more hb.size⟩⟩
/-- The value is the address of a block that has come since. -/
def FP.new (B t : Nat) (cs : Array Value) : FP := ⟨fun v w => ∃ g, v = .pointer (some ⟨g, 0, none⟩) ∧ B ≤ g ∧ Blk w g t cs, fun _ _ _ hb h => by
  obtain ⟨g, h1, h2, h3⟩ := h
  exact ⟨g, h1, h2, h3.below hb h3.lt⟩⟩
theorem sl_new {w : World} {n c : Nat} {e : Nat} {cs : Array Value} {xs : List Value} (h : cs.toList = xs) : Below w.heap.size w (w.alloc (.cells cs e)) ∧ (FP.sl n xs).p (.slice (some ⟨w.heap.size, 0, none⟩) n c) (w.alloc (.cells cs e)) :=
  ⟨bx_alloc (Below.refl _ _) _, _, _, rfl, rd_of_row (heap_new rfl) h⟩
theorem new_new {w : World} {B e : Nat} {cs : Array Value} (hB : B ≤ w.heap.size) : Below w.heap.size w (w.alloc (.cells cs e)) ∧ (FP.new B e cs).p (.pointer (some ⟨w.heap.size, 0, none⟩)) (w.alloc (.cells cs e)) :=
  ⟨bx_alloc (Below.refl _ _) _, _, rfl, hB, Blk.new _ _ _⟩
theorem own_ne {w : World} {base e size n : Nat} {v : Value} {xs : List Value} (h : w.ownsRow base e size v n xs) {g : Nat} {o : Obj} (hb : w.heap[g]? = some o) (hne : ∀ cur, o ≠ .cells cur e (0, 0)) : v.ownBlock ≠ some g := by
  intro hx
  rcases h.2 with ⟨rfl, _⟩ | ⟨g', cap, cur, rfl, _, hh, _⟩
  · cases hx
  · simp [Value.ownBlock] at hx
    subst hx
    rw [hh] at hb
    injection hb with hb
    exact hne cur hb.symm
end Go.Proofs.Ytnbjoebdbbhbkaa
