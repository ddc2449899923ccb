
/- Slices that the call itself makes: append, make, what they read as. -/
import Derived.Test.YtnbjoebdbbhbkaaBase
import Derived.Maps.AppendAt
import Derived.OwnWalk
namespace Go.Proofs.Ytnbjoebdbbhbkaa
open Go.RowKit

/-- t is a slice type of elements e, of so many cells and bytes, whose zero cells are these. -/
structure ElT (P : Program) (t e size bytes : Nat) (zs : Array Value) : Prop where
  under : P.underlying t = some (.slice e)
  info : ∃ i z, P.info? e = some i ∧ i.zero = some z ∧ i.size = size ∧ i.bytes = bytes ∧ z.cells = zs
  zsize : zs.size = size
  pos : 0 < size
theorem elT_of {P : Program} {t e size bytes : Nat} {z : Value} (ht : P.underlying t = some (.slice e)) (h : (P.info? e).map (fun i => (i.zero, i.size, i.bytes)) = some (some z, size, bytes)) (hz : z.cells.size = size) (hp : 0 < size) : ElT P t e size bytes z.cells := by
  obtain ⟨i, h1, h2, h3, h4⟩ := info_parts h
  exact ⟨ht, ⟨i, z, h1, h2, h3, h4, rfl⟩, hz, hp⟩

section
variable {P : Program} {w : World} {base e size n : Nat} {v : Value} {xs : List Value}
theorem own_form (h : w.ownsRow base e size v n xs) : ∃ A c, v = .slice A n c ∧ n ≤ c ∧ c ≤ maxLen ∧ Rd w w.heap.size A xs := by
  rcases h.2 with ⟨rfl, rfl⟩ | ⟨g, cap, cur, rfl, hb, hh, hn, hm, hs, ht⟩
  · refine ⟨none, 0, rfl, Nat.le_refl _, by unfold maxLen; omega, .inl ?_⟩
    exact List.eq_nil_of_length_eq_zero (by simpa using h.1)
  · refine ⟨_, cap, rfl, hn, hm, ?_⟩
    have := rd_of_row (w := w) hh (xs := cur.toList) rfl
    rw [← ht]
    exact this.take _
theorem own_rd {A : Option Addr} {c : Nat} (h : w.ownsRow base e size (.slice A n c) n xs) : Rd w w.heap.size A xs := by
  obtain ⟨A', c', h1, _, _, h4⟩ := own_form h
  injection h1 with h1
  subst h1
  exact h4
theorem own_bytes {l : List UInt8} (h : w.ownsRow base e 1 v l.length (l.map cb)) : RdB w w.heap.size v l := by
  obtain ⟨A, c, h1, h2, _, h3⟩ := own_form h
  exact ⟨A, c, h1, h2, h3⟩
theorem own_block (h : w.ownsRow base e size v n xs) (hn : 0 < n) : ∃ g cap, v = .slice (some ⟨g, 0, none⟩) n cap ∧ base ≤ g ∧ g < w.heap.size ∧ n ≤ cap ∧ cap ≤ 9223372036854775807 := by
  rcases h.2 with ⟨rfl, rfl⟩ | ⟨g, cap, cur, rfl, hb, hh, hn, hm, hs, ht⟩
  · omega
  · unfold maxLen at hm
    exact ⟨g, cap, rfl, hb, (Array.getElem?_eq_some_iff.1 hh).1, hn, by omega⟩
/-- append onto a row of the call's own; the source may be nil, or empty. -/
theorem run_app {t ty bytes m c B : Nat} {zs : Array Value} {A : Option Addr} {news : List Value} (E : ElT P t e size bytes zs) (hown : w.ownsRow base e size v n xs) (hr : Rd w B A news) (hl : news.length = m * size) (h1 : ∀ u ∈ news, u.oneCell' = true)
    (h63 : n + m ≤ maxLen) (hbytes : (n + m) * bytes ≤ 140737488355328) (hbase : base ≤ w.heap.size) :
    ∃ v' w', (Builtin.append_ #[t, t] ty #[v, .slice A m c]).run P w = .ok v' w' ∧ w'.ownsRow base e size v' (n + m) (xs ++ news) ∧ w.grownBy w' v.ownBlock ∧ (v'.ownBlock = v.ownBlock ∨ v'.ownBlock = some w.heap.size) := by
  obtain ⟨i, z, hi, hz, hs, hb, hzz⟩ := E.info
  have hzs : z.cells.size = size := by rw [hzz]; exact E.zsize
  have hpos := E.pos
  cases A with
  | none =>
    have hn : news = [] := by
      rcases hr with hr | ⟨b, off, hr, _⟩
      · exact hr
      · cases hr
    subst hn
    have hm : m = 0 := by
      have h0 : m * size = 0 := by simpa using hl.symm
      rcases Nat.mul_eq_zero.1 h0 with h | h <;> omega
    subst hm
    refine ⟨v, w, ?_, by simpa using hown, World.grownBy.refl w _, .inl rfl⟩
    rcases hown.2 with ⟨rfl, rfl⟩ | ⟨g, cap, cur, rfl, _, _, hnc, _⟩
    · simp [Builtin.append_, run_underlying E.under, sizeOf, typeInfo, hi, Builtin.lenOf, Builtin.firstCells]
    · simp [Builtin.append_, run_underlying E.under, sizeOf, typeInfo, hi, Builtin.lenOf, Builtin.firstCells, hnc, storeCells]
  | some a =>
    have hcells : ∀ j u, news[j]? = some u → w.cell? (a.add j) = some u := by
      intro j u hu
      rcases hr with hr | ⟨b, off, hr, _, hc⟩
      · subst hr; simp at hu
      · injection hr with hr
        subst hr
        rw [add_off]
        exact hc j u hu
    obtain ⟨v', w', h2, h3, h4, _, h5⟩ := run_append_own_at (P := P) w base t ty e i z size bytes E.under hi hz hs hb hzs hpos v n xs hown a m c news hl hcells h1 h63 hbytes hbase
    exact ⟨v', w', h2, h3, h4, h5⟩
theorem own_below {w' : World} {a : World} (hb : Below a.heap.size a w) (hown : w.ownsRow a.heap.size e size v n xs) (hg : w.grownBy w' v.ownBlock) : Below a.heap.size a w' :=
  hb.grown hg hb.size fun k hk => (hown.lt k hk).1
theorem wpList_app {ops : Array Oper} {rest : List Oper} {o : Oper} {a : Act} {Q : Exit → Act → World → Prop} (hgd : o.guard = none) (s x : Operand) (t : TypeId) (ho : o.op = .call { callee := .builtin .append, args := #[s, x], argTypes := #[t, t] })
    (v : Value) (hs : a.eval s = v) (A : Option Addr) (m c : Nat) (hx : a.eval x = .slice A m c) {bytes B : Nat} {zs : Array Value} {news : List Value} (E : ElT P t e size bytes zs) (hown : w.ownsRow base e size v n xs) (hr : Rd w B A news) (hl : news.length = m * size) (h1 : ∀ u ∈ news, u.oneCell' = true)
    (h63 : n + m ≤ maxLen) (hbytes : (n + m) * bytes ≤ 140737488355328) (hbase : base ≤ w.heap.size)
    (h : ∀ v' w', w'.ownsRow base e size v' (n + m) (xs ++ news) → w.grownBy w' v.ownBlock → (v'.ownBlock = v.ownBlock ∨ v'.ownBlock = some w.heap.size) → wpList P ops Q rest (a.put o.dst v') w') : wpList P ops Q (o :: rest) a w := by
  obtain ⟨v', w', hrun, h2, h3, h4⟩ := run_app (P := P) (w := w) (ty := o.type) (c := c) E hown hr hl h1 h63 hbytes hbase
  refine wpList_plain hgd fun K hK => ?_
  unfold Oper.wp execOp
  simp only [ho, resolve, invoke, builtin, Sem.run_bind, Sem.run_pure, Result.andThen_ok, List.map_toArray, List.map_cons, List.map_nil, hs, hx, hrun]
  exact hK _ _ (h v' w' h2 h3 h4)
theorem gives_app {o : Oper} {a : Act} (s x : Operand) (t : TypeId) (ho : o.op = .call { callee := .builtin .append, args := #[s, x], argTypes := #[t, t] })
    (v : Value) (hs : a.eval s = v) (A : Option Addr) (m c : Nat) (hx : a.eval x = .slice A m c) {bytes B : Nat} {zs : Array Value} {news : List Value} (E : ElT P t e size bytes zs) (hown : w.ownsRow base e size v n xs) (hr : Rd w B A news) (hl : news.length = m * size) (h1 : ∀ u ∈ news, u.oneCell' = true)
    (h63 : n + m ≤ maxLen) (hbytes : (n + m) * bytes ≤ 140737488355328) (hbase : base ≤ w.heap.size) :
    ∃ v' w', (execOp a.eval o).run P w = .ok (.value v') w' ∧ w'.ownsRow base e size v' (n + m) (xs ++ news) ∧ w.grownBy w' v.ownBlock ∧ (v'.ownBlock = v.ownBlock ∨ v'.ownBlock = some w.heap.size) := by
  obtain ⟨v', w', hrun, h2, h3, h4⟩ := run_app (P := P) (w := w) (ty := o.type) (c := c) E hown hr hl h1 h63 hbytes hbase
  refine ⟨v', w', ?_, h2, h3, h4⟩
  unfold execOp
  simp only [ho, resolve, invoke, builtin, Sem.run_bind, Sem.run_pure, Result.andThen_ok, List.map_toArray, List.map_cons, List.map_nil, hs, hx, hrun]
end
theorem own_more {w : World} {base base' e size n : Nat} {v : Value} {xs : List Value} (h : w.ownsRow base e size v n xs) (hb : base' ≤ base) : w.ownsRow base' e size v n xs := by
  refine ⟨h.1, h.2.imp id ?_⟩
  rintro ⟨g, cap, cur, h1, h2, h3⟩
  exact ⟨g, cap, cur, h1, by omega, h3⟩
theorem own_empty (w : World) (e : TypeId) (size : Nat) : (w.alloc (.cells #[] e)).ownsRow w.heap.size e size (.slice (some ⟨w.heap.size, 0, none⟩) 0 0) 0 [] :=
  ⟨by simp, .inr ⟨w.heap.size, 0, #[], rfl, Nat.le_refl _, heap_new rfl, Nat.le_refl _, Nat.zero_le _, by simp, by simp⟩⟩
theorem one_cb (l : List UInt8) : ∀ u ∈ l.map cb, u.oneCell' = true := by
  intro u hu
  obtain ⟨x, _, rfl⟩ := List.mem_map.1 hu
  rfl
/-- A row of n times one cell. -/
def zrow (n : Nat) (z : Value) : Array Value := Array.replicate n z
theorem run_mk1 {P : Program} {t e bytes : Nat} {z : Value} (E : ElT P t e 1 bytes #[z]) (kl kc : IntKind) (n : Nat) (hb : bytes * n ≤ 281474976710656) (h63 : n ≤ 9223372036854775807) (w : World) :
    (Instr.makeSlice t (.int kl (n : Int)) (.int kc (n : Int))).run P w = .ok (.slice (some ⟨w.heap.size, 0, none⟩) n n) (w.alloc (.cells (zrow n z) e)) := by
  obtain ⟨i, zz, hi, hz, hs, hby, hzz⟩ := E.info
  have hb' : (i.bytes : Int) * (n : Int) ≤ 281474976710656 := by
    rw [hby]
    have h : ((bytes * n : Nat) : Int) ≤ 281474976710656 := by omega
    rwa [Int.natCast_mul] at h
  have hr := run_make (P := P) w t e i zz E.under hi hz kl kc n n (by omega) (Int.le_refl _) hb' (by omega)
  simp only [Int.toNat_natCast] at hr
  rw [hr, hzz, hs, Nat.mul_one]
  have : madeCells #[z] n = zrow n z := by
    apply Array.toList_inj.1
    rw [toList_madeCells_one]
    simp [zrow]
  rw [this]
/-- A row of bytes that is being filled: the first k are there, the others are noughts. -/
def fillTo (X : List UInt8) (k : Nat) : Array Value := ((X.take k).map cb ++ List.replicate (X.length - k) (cb 0)).toArray
theorem fillTo_zero (X : List UInt8) : fillTo X 0 = zrow X.length (.int .u8 0) := by
  apply Array.toList_inj.1
  simp [fillTo, zrow, cb]
theorem fillTo_all (X : List UInt8) : fillTo X X.length = (X.map cb).toArray := by simp [fillTo]
theorem fillTo_size (X : List UInt8) (k : Nat) (hk : k ≤ X.length) : (fillTo X k).size = X.length := by simp [fillTo]; omega
theorem fillTo_step (X : List UInt8) (k : Nat) (hk : k < X.length) : (fillTo X k).setIfInBounds k (.int .u8 (X[k].toNat : Int)) = fillTo X (k + 1) := by
  apply Array.toList_inj.1
  simp only [fillTo, Array.toList_setIfInBounds]
  rw [List.set_append_right _ _ (by simp; omega)]
  have h1 : ((X.take k).map cb).length = k := by simp; omega
  rw [h1, Nat.sub_self, show X.length - k = (X.length - (k + 1)) + 1 by omega, List.replicate_succ, List.set_cons_zero, List.take_succ_eq_append_getElem hk, List.map_append, List.append_assoc]
  rfl
theorem fillTo_get (X : List UInt8) (k : Nat) (hk : k < X.length) : (fillTo X k)[k]? = some (.int .u8 0) := by
  simp only [fillTo, List.getElem?_toArray]
  rw [List.getElem?_append_right (by simp; omega)]
  have h1 : ((X.take k).map cb).length = k := by simp; omega
  rw [h1, Nat.sub_self, List.getElem?_replicate]
  simp [cb]
  omega
end Go.Proofs.Ytnbjoebdbbhbkaa
