
/- Records: a log, and what opening one is, plain. -/
import Derived.Test.YtlpdiamgpnmeoaaWaD
namespace Go.Proofs.Ytlpdiamgpnmeoaa
open Go.RowKit
set_option linter.unusedVariables false
/-- Type ty has one cell. -/
def Siz1 (P : Program) (ty : Nat) : Prop := ∀ w, (sizeOf ty).run P w = .ok 1 w
theorem siz1_of {P : Program} {ty : Nat} (hi : (P.info? ty).map (·.size) = some 1) : Siz1 P ty := by
  intro w
  cases hq : P.info? ty with
  | none => simp [hq] at hi
  | some i =>
    have hs : i.size = 1 := by simpa [hq] using hi
    simp [sizeOf, typeInfo, hq, hs]
theorem cells_one {v : Value} (h1 : v.oneCell' = true) : v.cells = #[v] := by cases v <;> first | rfl | (simp [Value.oneCell'] at h1)
theorem run_store1 {P : Program} {ty : Nat} {w : World} {g off : Nat} {t : TypeId} {cur : Array Value} {v : Value} (hT : Siz1 P ty) (h1 : v.oneCell' = true) (hb : Blk w g t cur) (hl : off < cur.size) :
    (storeVar ty ⟨g, off, none⟩ v).run P w = .ok () (w.setRow g (spl cur off [v])) := by
  have h := run_storeCells_at (P := P) g off t [v] 0 cur w hb (by show off + 0 + 1 ≤ cur.size; omega) (by intro u hu; simp at hu; subst hu; exact h1)
  simp [storeVar, Sem.run_bind, hT w, cells_one h1, h, spl]
/-- One cell is stored into a block. -/
theorem wpList_store1 {P : Program} {ops : Array Oper} {rest : List Oper} {o : Oper} {a : Go.Act} {w : World} {Q : Exit → Go.Act → World → Prop} (hgd : o.guard = none) (ty : TypeId) (x y : Operand) (ho : o.op = .store ty x y)
    (g off : Nat) (hx : a.eval x = .pointer (some ⟨g, off, none⟩)) (v : Value) (hy : a.eval y = v) (hT : Siz1 P ty) (h1 : v.oneCell' = true) {t : TypeId} {cur : Array Value} (hb : Blk w g t cur) (hl : off < cur.size)
    (h : ∀ w1, Put w w1 g t (spl cur off [v]) → wpList P ops Q rest (a.put o.dst undef) w1) : wpList P ops Q (o :: rest) a w :=
  wpList_plain hgd fun _ hK => by
    unfold Oper.wp execOp
    simp only [ho, hx, hy, Instr.storeAt, Instr.sureAddr, Sem.run_bind, Sem.run_pure, Result.andThen_ok, run_store1 hT h1 hb hl]
    exact hK _ _ (h _ (setRow_put hb _))
theorem sz59 : Siz1 Try.prog 59 := siz1_of (by kernel_rfl)
theorem sz3 : Siz1 Try.prog 3 := siz1_of (by kernel_rfl)
theorem sz23 : Siz1 Try.prog 23 := siz1_of (by kernel_rfl)
theorem sz22 : Siz1 Try.prog 22 := siz1_of (by kernel_rfl)
theorem sz27 : Siz1 Try.prog 27 := siz1_of (by kernel_rfl)
/-- A log. -/
structure LS where
  size : Nat
  turn : Nat
  area : Nat
  b : List UInt8
  rows : List (List UInt8)
  sure : Nat
  e : Int
def logc (g : Nat) (L : LS) (vb vr : Value) : Array Value := #[.pointer (some ⟨g, 0, none⟩), .int .i64 (L.size : Int), .int .u64 (L.turn : Int), .int .i64 (L.area : Int), vb, vr, .int .i64 (L.sure : Int), .int .i64 L.e]
/-- The super that counts most. -/
def pickS (size : Nat) (st : Nat × Nat × Nat) (b : List UInt8) : Nat × Nat × Nat := if isS size b = true ∧ st.1 < tOf b then (tOf b, aOf b, lOf b) else st
def stS (D : DS) (size : Nat) : Nat → Nat × Nat × Nat
  | 0 => (0, 0, 0)
  | k + 1 => pickS size (stS D size k) (readAt D (k : Int))
/-- Blocks on end. -/
def runB (D : DS) (f : Nat) : Nat → List UInt8
  | 0 => []
  | k + 1 => runB D f k ++ readAt D ((f + k : Nat) : Int)
def sizeD (D : DS) : Nat := (D.n - 2) / 2
def openB (D : DS) : List UInt8 := (runB D (2 + (stS D (sizeD D) 2).2.1 * sizeD D) (sizeD D)).take (stS D (sizeD D) 2).2.2
def openL (D : DS) : LS := { size := sizeD D, turn := (stS D (sizeD D) 2).1, area := (stS D (sizeD D) 2).2.1, b := openB D, rows := (framesL (openB D)).1, sure := (framesL (openB D)).1.length, e := 0 }
theorem isS_parts {size : Nat} {b : List UInt8} (h : isS size b = true) : 0 < tOf b ∧ aOf b < 2 ∧ lOf b ≤ size * 256 ∧ b = superL (tOf b) (aOf b) (lOf b) := by
  unfold isS at h
  simp only [Bool.and_eq_true, decide_eq_true_eq, beq_iff_eq] at h
  exact ⟨h.1.1.1, h.1.1.2, h.1.2, h.2⟩
theorem stS_lt (D : DS) (size : Nat) : ∀ k, (stS D size k).1 < 18446744073709551616 ∧ (stS D size k).2.1 < 2 ∧ (stS D size k).2.2 ≤ size * 256
  | 0 => ⟨by show 0 < _; omega, by show 0 < _; omega, by show 0 ≤ _; omega⟩
  | k + 1 => by
    unfold stS pickS
    split
    · rename_i h
      obtain ⟨_, h2, h3, _⟩ := isS_parts h.1
      exact ⟨tOf_lt _, h2, h3⟩
    · exact stS_lt D size k
theorem runB_len {D : DS} (h : D.Ok) (f : Nat) : ∀ k, (runB D f k).length = k * 256
  | 0 => rfl
  | k + 1 => by
    unfold runB
    rw [List.length_append, runB_len h f k, readAt_len h]
    omega
theorem runB_take {D : DS} (h : D.Ok) (f : Nat) {k : Nat} : ∀ {n : Nat}, k ≤ n → (runB D f n).take (k * 256) = runB D f k
  | 0, hk => by
    have : k = 0 := by omega
    subst this
    rfl
  | n + 1, hk => by
    by_cases he : k = n + 1
    · subst he
      exact List.take_of_length_le (by rw [runB_len h]; omega)
    · rw [show runB D f (n + 1) = runB D f n ++ readAt D ((f + n : Nat) : Int) from rfl, List.take_append_of_le_length (by rw [runB_len h]; exact Nat.mul_le_mul_right _ (by omega))]
      exact runB_take h f (by omega)
/-- Once there are enough, more change nothing. -/
theorem runB_tail {D : DS} (h : D.Ok) (f : Nat) {k n t : Nat} (hk : k ≤ n) (ht : t ≤ k * 256) : (runB D f n).take t = (runB D f k).take t := by
  rw [← runB_take h f hk, List.take_take, Nat.min_eq_left ht]
/-- w' has at most turned blocks of the kinds ex, none of them below B, and has new ones. -/
structure XFr (ex : List Nat) (B : Nat) (w w' : World) : Prop where
  below : Below B w w'
  keep : ∀ (k : Nat) (cs : Array Value) (t : TypeId) (fr : Nat × Nat), w.heap[k]? = some (.cells cs t fr) → t ∉ ex → w'.heap[k]? = some (.cells cs t fr)
theorem XFr.refl (ex : List Nat) (B : Nat) (w : World) : XFr ex B w w := ⟨Below.refl _ _, fun _ _ _ _ h _ => h⟩
theorem XFr.trans {ex : List Nat} {B : Nat} {a b c : World} (h : XFr ex B a b) (h' : XFr ex B b c) : XFr ex B a c := ⟨h.below.trans h'.below, fun k cs t fr hk h1 => h'.keep k cs t fr (h.keep k cs t fr hk h1) h1⟩
theorem XFr.of_below {ex : List Nat} {B : Nat} {w w' : World} (h : Below w.heap.size w w') (hB : B ≤ w.heap.size) : XFr ex B w w' :=
  ⟨h.mono hB, fun k cs t fr hk _ => (h.block k (Array.getElem?_eq_some_iff.1 hk).1).trans hk⟩
theorem XFr.of_dfr {ex : List Nat} {B : Nat} {w w' : World} (h : DFr B w w') (h1 : tDisk ∈ ex) (h2 : tLoose ∈ ex) : XFr ex B w w' :=
  ⟨h.below, fun k cs t fr hk hn => h.keep k cs t fr hk (fun e => hn (e ▸ h1)) (fun e => hn (e ▸ h2))⟩
theorem XFr.of_put {ex : List Nat} {B g t : Nat} {w w' : World} {c0 c1 : Array Value} (hb : Blk w g t c0) (hp : Put w w' g t c1) (hB : B ≤ g) (ht : t ∈ ex) : XFr ex B w w' :=
  ⟨hp.below hB, fun k cs t' fr hk hn => (hp.oth k (by
    rintro rfl
    unfold Blk at hb
    rw [hb] at hk
    injection hk with hk
    injection hk with _ hk
    exact hn (hk ▸ ht))).trans hk⟩
theorem XFr.wide {ex ex' : List Nat} {B : Nat} {w w' : World} (h : XFr ex B w w') (hs : ∀ t ∈ ex, t ∈ ex') : XFr ex' B w w' := ⟨h.below, fun k cs t fr hk hn => h.keep k cs t fr hk (fun hm => hn (hs t hm))⟩
theorem Rd.xfr {ex : List Nat} {w w' : World} {B B' : Nat} {A : Option Addr} {xs : List Value} (h : Rd w B' A xs) (ho : ∀ a, A = some a → ∃ cs t fr, w.heap[a.block]? = some (.cells cs t fr) ∧ t ∉ ex) (hd : XFr ex B w w') : Rd w' B' A xs := by
  rcases h with h | ⟨b, off, rfl, hlt, hc⟩
  · exact .inl h
  · obtain ⟨cs, t, fr, hh, hn⟩ := ho _ rfl
    refine .inr ⟨b, off, rfl, hlt, fun j v hj => ?_⟩
    have := hc j v hj
    unfold World.cell? at this ⊢
    rw [hd.keep b cs t fr hh hn, ← hh]
    exact this
theorem own_xfr {ex : List Nat} {w w1 : World} {B base e size n : Nat} {v : Value} {xs : List Value} (h : w.ownsRow base e size v n xs) (hd : XFr ex B w w1) (h1 : e ∉ ex) : w1.ownsRow base e size v n xs := by
  refine ⟨h.1, h.2.imp id ?_⟩
  rintro ⟨g, cap, cur, e1, e2, e3, e4⟩
  exact ⟨g, cap, cur, e1, e2, hd.keep g cur e (0, 0) e3 h1, e4⟩
theorem blk_xfr {ex : List Nat} {w w1 : World} {B g t : Nat} {cs : Array Value} (h : Blk w g t cs) (hd : XFr ex B w w1) (h1 : t ∉ ex) : Blk w1 g t cs := hd.keep g cs t (0, 0) h h1
theorem SlO.xfr {ex : List Nat} {w w' : World} {B : Nat} {v : Value} {l : List UInt8} (h : SlO w v l) (hd : XFr ex B w w') (h1 : tU8 ∉ ex) : SlO w' v l := by
  obtain ⟨A, c, h2, h3, h4, h5, h6⟩ := h
  refine ⟨A, c, h2, h3, h4, (h5.xfr (fun a ha => ?_) hd).more hd.below.size, fun a ha => ?_⟩
  · obtain ⟨cs, fr, hh⟩ := h6 a ha
    exact ⟨cs, _, fr, hh, h1⟩
  · obtain ⟨cs, fr, hh⟩ := h6 a ha
    exact ⟨cs, fr, hd.keep _ _ _ _ hh h1⟩
theorem RowsAt.xfr {ex : List Nat} {w w1 : World} {B B' : Nat} {v : Value} {vs : List Value} {rs : List (List UInt8)} (h : RowsAt w B v vs rs) (hd : XFr ex B' w w1) (h1 : tBy ∉ ex) (h2 : tU8 ∉ ex) : RowsAt w1 B v vs rs :=
  ⟨own_xfr h.own hd h1, fun k v l q1 q2 => own_xfr (h.rd k v l q1 q2) hd h2⟩
/-- At block gl lies the log L, over the disk D at block g. -/
structure IsLog (w : World) (B gl g : Nat) (D : DS) (L : LS) (vb vr : Value) (vs : List Value) : Prop where
  disk : IsDisk w B g D
  blk : Blk w gl tLog (logc g L vb vr)
  by_ : SlO w vb L.b
  rows : RowsAt w B vr vs L.rows
  gB : B ≤ gl
  size : L.size = sizeD D
  turn : L.turn < 18446744073709551616
  area : L.area < 2
  len : L.b.length ≤ L.size * 256
  sure : L.sure ≤ L.rows.length
  many : L.rows.length * 8 ≤ L.b.length
  short : ∀ r ∈ L.rows, r.length ≤ 16384
def ALog (w : World) (B gl g : Nat) (D : DS) (L : LS) : Prop := ∃ vb vr vs, IsLog w B gl g D L vb vr vs
end Go.Proofs.Ytlpdiamgpnmeoaa
