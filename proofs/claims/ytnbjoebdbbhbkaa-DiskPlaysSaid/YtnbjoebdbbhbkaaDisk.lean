
/- The disk: what it is in memory, and its small methods. -/
import Derived.Test.YtnbjoebdbbhbkaaRows
import Derived.Test.YtnbjoebdbbhbkaaOwn
import Derived.Test.YtnbjoebdbbhbkaaMapI
namespace Go.Proofs.Ytnbjoebdbbhbkaa
open Go.RowKit
set_option linter.unusedVariables false

/-- A disk, by values: how many blocks, what is for good (none: noughts), what is loose, when it fails, whether it has. -/
structure DS where
  n : Nat
  good : Int → Option (List UInt8)
  loose : List (Int × List UInt8)
  fails : Int
  dead : Bool
def bv (l : List UInt8) : Value := .agg (l.map cb).toArray
def lcells (ls : List (Int × List UInt8)) : List Value := ls.flatMap fun x => .int .i64 x.1 :: x.2.map cb
structure DS.Ok (D : DS) : Prop where
  n1 : D.n ≤ 65536
  g256 : ∀ k l, D.good k = some l → l.length = 256
  l256 : ∀ x ∈ D.loose, x.2.length = 256
  room : D.loose.length ≤ 1000000
  f1 : -1 ≤ D.fails
  f2 : D.fails ≤ 9223372036854775807
theorem lcells_length : ∀ (ls : List (Int × List UInt8)), (∀ x ∈ ls, x.2.length = 256) → (lcells ls).length = ls.length * 257
  | [], _ => rfl
  | x :: ls, h => by
    have ih := lcells_length ls (fun y hy => h y (by simp [hy]))
    have hx := h x (by simp)
    simp only [lcells, List.flatMap_cons, List.length_append, List.length_cons, List.length_map] at *
    omega
abbrev tDisk : Nat := 59
abbrev tLoose : Nat := 63
/-- The disk's own block. -/
def dcells (D : DS) (m : Nat) (A : Option Addr) (c : Nat) : Array Value := #[.int .i64 D.n, .map (some m), .slice A D.loose.length c, .int .i64 D.fails, .bool D.dead]
structure IsD (w : World) (B g : Nat) (D : DS) (m : Nat) (A : Option Addr) (c : Nat) : Prop where
  ok : D.Ok
  blk : Blk w g tDisk (dcells D m A c)
  map : IMap w m fun k => (D.good k).map bv
  own : w.ownsRow B tLoose 257 (.slice A D.loose.length c) D.loose.length (lcells D.loose)
  gB : B ≤ g
  mB : B ≤ m
/-- At block g, and at none below B, lies the disk D. -/
def IsDisk (w : World) (B g : Nat) (D : DS) : Prop := ∃ m A c, IsD w B g D m A c
/-- w' has at most turned a disk's blocks, none of them below B, and has new ones. -/
structure DFr (B : Nat) (w w' : World) : Prop where
  below : Below B w w'
  keep : ∀ (k : Nat) (cs : Array Value) (t : TypeId) (fr : Nat × Nat), w.heap[k]? = some (.cells cs t fr) → t ≠ tDisk → t ≠ tLoose → w'.heap[k]? = some (.cells cs t fr)
theorem DFr.refl (B : Nat) (w : World) : DFr B w w := ⟨Below.refl _ _, fun _ _ _ _ h _ _ => h⟩
theorem DFr.trans {B : Nat} {a b c : World} (h : DFr B a b) (h' : DFr B b c) : DFr B a c := ⟨h.below.trans h'.below, fun k cs t fr hk h1 h2 => h'.keep k cs t fr (h.keep k cs t fr hk h1 h2) h1 h2⟩
theorem DFr.of_below {B : Nat} {w w' : World} (h : Below w.heap.size w w') (hB : B ≤ w.heap.size) : DFr B w w' :=
  ⟨h.mono hB, fun k cs t fr hk _ _ => (h.block k (Array.getElem?_eq_some_iff.1 hk).1).trans hk⟩
theorem DFr.of_oth {B g : Nat} {w w' : World} (h : Oth w w' g) (hB : B ≤ g) (hg : ∀ (cs : Array Value) (t : TypeId) (fr : Nat × Nat), w.heap[g]? = some (.cells cs t fr) → t = tDisk ∨ t = tLoose) : DFr B w w' :=
  ⟨h.below hB, fun k cs t fr hk h1 h2 => (h.oth k (by rintro rfl; rcases hg cs t fr hk with h | h; exact h1 h; exact h2 h)).trans hk⟩
theorem IsD.below {w w' : World} {B g m c : Nat} {D : DS} {A : Option Addr} (h : IsD w B g D m A c) (hb : Below w.heap.size w w') : IsD w' B g D m A c :=
  ⟨h.ok, h.blk.below hb h.blk.lt, h.map.below hb h.map.lt, by
    refine h.own.kept (row := none) ⟨hb.os, hb.tape, hb.output, hb.size, fun k hk _ => hb.block k hk⟩ ?_
    cases A with
    | none => exact .inl rfl
    | some a => exact .inr (by simp [Value.ownBlock]), h.gB, h.mB⟩
theorem IsDisk.below {w w' : World} {B g : Nat} {D : DS} (h : IsDisk w B g D) (hb : Below w.heap.size w w') : IsDisk w' B g D := by
  obtain ⟨m, A, c, h⟩ := h
  exact ⟨m, A, c, h.below hb⟩
theorem IsD.c0 {w : World} {B g m c : Nat} {D : DS} {A : Option Addr} (h : IsD w B g D m A c) : w.cell? ⟨g, 0, none⟩ = some (.int .i64 D.n) := h.blk.cell 0
theorem IsD.c1 {w : World} {B g m c : Nat} {D : DS} {A : Option Addr} (h : IsD w B g D m A c) : w.cell? ⟨g, 1, none⟩ = some (.map (some m)) := h.blk.cell 1
theorem IsD.c2 {w : World} {B g m c : Nat} {D : DS} {A : Option Addr} (h : IsD w B g D m A c) : w.cell? ⟨g, 2, none⟩ = some (.slice A D.loose.length c) := h.blk.cell 2
theorem IsD.c3 {w : World} {B g m c : Nat} {D : DS} {A : Option Addr} (h : IsD w B g D m A c) : w.cell? ⟨g, 3, none⟩ = some (.int .i64 D.fails) := h.blk.cell 3
theorem IsD.c4 {w : World} {B g m c : Nat} {D : DS} {A : Option Addr} (h : IsD w B g D m A c) : w.cell? ⟨g, 4, none⟩ = some (.bool D.dead) := h.blk.cell 4
/-- A field of one cell is written. -/
theorem IsD.set {w w1 : World} {B g m c i : Nat} {D D' : DS} {A : Option Addr} {v : Value} (h : IsD w B g D m A c) (hp : Put w w1 g tDisk ((dcells D m A c).setIfInBounds i v)) (he : (dcells D m A c).setIfInBounds i v = dcells D' m A c)
    (hg : D'.good = D.good) (hl : D'.loose = D.loose) (hok : D'.Ok) : IsD w1 B g D' m A c ∧ DFr B w w1 := by
  have hne : (Value.slice A D.loose.length c).ownBlock ≠ some g := by
    intro hx
    cases A with
    | none => cases hx
    | some a =>
      have := h.own.2
      rcases this with ⟨h1, _⟩ | ⟨g', cap, cur, h1, _, hh, _⟩
      · cases h1
      · simp [Value.ownBlock] at hx
        injection h1 with h1
        injection h1 with h1
        subst h1
        simp at hx
        subst hx
        have hb := h.blk
        unfold Blk at hb
        rw [hh] at hb
        injection hb with hb
        injection hb with _ ht
        exact absurd ht (by decide)
  refine ⟨⟨hok, by rw [← he]; exact hp.blk, ?_, ?_, h.gB, h.mB⟩, DFr.of_oth hp.toOth h.gB fun cs t fr hk => ?_⟩
  · rw [hg]
    exact h.map.of_same (hp.oth m (fun e => h.map.ne_blk h.blk e.symm))
  · rw [hl]
    exact h.own.kept (row := some g) ⟨hp.os, hp.tape, hp.output, Nat.le_of_eq hp.size.symm, fun k _ hk => hp.oth k (fun e => hk (by rw [e]))⟩ (.inr hne)
  · have hb := h.blk
    unfold Blk at hb
    rw [hk] at hb
    injection hb with hb
    injection hb with _ ht
    exact .inl ht

/-! ### The small methods -/
def mayOf (D : DS) : Int := if D.dead then 30 else 0
def thereB (D : DS) (i : Int) : Bool := decide (0 ≤ i) && decide (i < D.n)
def countE (D : DS) : Int := if D.fails = 0 then 30 else 0
def countD (D : DS) : DS := if D.fails = 0 then { D with dead := true } else if 0 < D.fails then { D with fails := D.fails - 1 } else D
theorem countD_ok {D : DS} (h : D.Ok) : (countD D).Ok := by
  obtain ⟨h1, h2, h3, h4, h5, h6⟩ := h
  unfold countD
  split
  · exact ⟨h1, h2, h3, h4, h5, h6⟩
  · split
    · exact ⟨h1, h2, h3, h4, by show -1 ≤ D.fails - 1; omega, by show D.fails - 1 ≤ _; omega⟩
    · exact ⟨h1, h2, h3, h4, h5, h6⟩
def newD (n : Nat) : DS := { n := n, good := fun _ => none, loose := [], fails := -1, dead := false }
set_option maxHeartbeats 400000 in
theorem New_no (w : World) (n : Int) (h : n < 1 ∨ 65536 < n) : Calls Try.prog 10 #[.int .i64 n] w fun e w' => e = .returned (.tuple #[.pointer none, .int .i64 1]) ∧ w = w' := by
  by_cases h1 : n < 1
  · go_enter Try.func10, Try.ntmps10
    go_wp2
    go_ret2
    exact ⟨rfl, rfl⟩
  · have h2 : 65536 < n := by omega
    go_enter Try.func10, Try.ntmps10
    go_wp2
    go_ret2
    exact ⟨rfl, rfl⟩
set_option maxHeartbeats 400000 in
theorem New_yes (w : World) (n : Nat) (h1 : 1 ≤ n) (h2 : n ≤ 65536) : Calls Try.prog 10 #[.int .i64 n] w fun e w' => ∃ g, e = .returned (.tuple #[.pointer (some ⟨g, 0, none⟩), .int .i64 0]) ∧ IsDisk w' w.heap.size g (newD n) ∧ Below w.heap.size w w' := by
  have hmm := @run_makeMap Try.prog
  go_enter Try.func10, Try.ntmps10
  go_wp2
  go_ret2
  refine ⟨_, rfl, ⟨w.heap.size, none, 0, ⟨⟨h2, (fun k l h => (by cases h)), (fun x hx => (by cases hx)), (by show 0 ≤ 1000000; omega), (by show (-1 : Int) ≤ -1; omega), (by show (-1 : Int) ≤ _; omega)⟩, ?_, ?_, World.ownsRow_nil _ _ _ _, by omega, Nat.le_refl _⟩⟩, by repeat (first | exact Below.refl _ _ | apply bx_alloc)⟩
  · have := Blk.new (w.alloc (.map #[] 0)) tDisk (dcells (newD n) w.heap.size none 0)
    rw [World.size_alloc] at this
    exact this
  · exact (imap_new w).of_same (heap_old (heap_new rfl) |>.trans (heap_new rfl).symm)
set_option maxHeartbeats 400000 in
theorem Len_any (w : World) {B g : Nat} {D : DS} (h : IsDisk w B g D) : Calls Try.prog 16 #[.pointer (some ⟨g, 0, none⟩)] w fun e w' => e = .returned (.int .i64 D.n) ∧ w = w' := by
  obtain ⟨m, A, c, h⟩ := h
  have c0 := h.c0
  go_enter Try.func16, Try.ntmps16
  go_wp2
  go_ret
  exact ⟨rfl, rfl⟩
set_option maxHeartbeats 400000 in
theorem Len_nil (w : World) : Calls Try.prog 16 #[.pointer none] w fun e w' => e = .returned (.int .i64 0) ∧ w = w' := by
  go_enter Try.func16, Try.ntmps16
  go_wp2
  go_ret
  exact ⟨rfl, rfl⟩
set_option maxHeartbeats 400000 in
theorem dmay_any (w : World) {B g : Nat} {D : DS} (h : IsDisk w B g D) : Calls Try.prog 26 #[.pointer (some ⟨g, 0, none⟩)] w fun e w' => e = .returned (.int .i64 (mayOf D)) ∧ w = w' := by
  obtain ⟨m, A, c, h⟩ := h
  have c4 := h.c4
  unfold mayOf
  cases hd : D.dead with
  | true =>
    rw [hd] at c4
    clear hd
    go_enter Try.func26, Try.ntmps26
    go_wp2
    go_ret
    exact ⟨rfl, rfl⟩
  | false =>
    rw [hd] at c4
    clear hd
    go_enter Try.func26, Try.ntmps26
    go_wp2
    go_ret
    exact ⟨rfl, rfl⟩
set_option maxHeartbeats 400000 in
theorem may_nil (w : World) : Calls Try.prog 26 #[.pointer none] w fun e w' => e = .returned (.int .i64 1) ∧ w = w' := by
  go_enter Try.func26, Try.ntmps26
  go_wp2
  go_ret
  exact ⟨rfl, rfl⟩
set_option maxHeartbeats 400000 in
theorem there_any (w : World) {B g : Nat} {D : DS} (h : IsDisk w B g D) (i : Int) : Calls Try.prog 27 #[.pointer (some ⟨g, 0, none⟩), .int .i64 i] w fun e w' => e = .returned (.bool (thereB D i)) ∧ w = w' := by
  obtain ⟨m, A, c, h⟩ := h
  have c0 := h.c0
  unfold thereB
  by_cases hi : 0 ≤ i
  · by_cases hn : i < D.n
    · go_enter Try.func27, Try.ntmps27
      go_wp2
      go_ret
      exact ⟨ret_val (by first | (simp [*]; done) | (simp [*]; omega)), rfl⟩
    · go_enter Try.func27, Try.ntmps27
      go_wp2
      go_ret
      exact ⟨ret_val (by first | (simp [*]; done) | (simp [*]; omega)), rfl⟩
  · go_enter Try.func27, Try.ntmps27
    go_wp2
    go_ret
    exact ⟨ret_val (by first | (simp [*]; done) | (simp [*]; omega)), rfl⟩
set_option maxHeartbeats 400000 in
theorem count_any (w : World) {B g : Nat} {D : DS} (h : IsDisk w B g D) : Calls Try.prog 28 #[.pointer (some ⟨g, 0, none⟩)] w fun e w' => e = .returned (.int .i64 (countE D)) ∧ IsDisk w' B g (countD D) ∧ DFr B w w' := by
  obtain ⟨m, A, c, h⟩ := h
  have hok := countD_ok h.ok
  have c3 := h.c3
  have c4 := h.c4
  have f3 := h.blk.frozen 3
  have f4 := h.blk.frozen 4
  have hf1 := h.ok.f1
  have hf2 := h.ok.f2
  unfold countE countD at *
  by_cases h0 : D.fails = 0
  · rw [if_pos h0] at hok
    rw [if_pos h0, if_pos h0]
    rw [h0] at c3
    have hset := h.set (i := 4) (v := .bool true) (setCell_put h.blk _) (D' := { D with dead := true }) rfl rfl rfl hok
    have HS := hid hset
    clear hset h0
    go_enter Try.func28, Try.ntmps28
    go_wp2
    go_ret
    exact ⟨rfl, ⟨m, A, c, HS.out.1⟩, HS.out.2⟩
  · rw [if_neg h0] at hok
    rw [if_neg h0, if_neg h0]
    by_cases hp : 0 < D.fails
    · rw [if_pos hp] at hok
      rw [if_pos hp]
      have hset := h.set (i := 3) (v := .int .i64 (D.fails - 1)) (setCell_put h.blk _) (D' := { D with fails := D.fails - 1 }) rfl rfl rfl hok
      have HS := hid hset
      have e0 : (D.fails == 0) = false := by simpa using h0
      clear hset h0
      go_enter Try.func28, Try.ntmps28
      go_wp2
      go_ret
      exact ⟨rfl, ⟨m, A, c, HS.out.1⟩, HS.out.2⟩
    · rw [if_neg hp] at hok
      rw [if_neg hp]
      have e0 : (D.fails == 0) = false := by simpa using h0
      have HH := hid h
      clear h0
      go_enter Try.func28, Try.ntmps28
      go_wp2
      go_ret
      exact ⟨rfl, ⟨m, A, c, HH.out⟩, DFr.refl _ _⟩
set_option maxHeartbeats 400000 in
theorem Loose_any (w : World) {B g : Nat} {D : DS} (h : IsDisk w B g D) : Calls Try.prog 15 #[.pointer (some ⟨g, 0, none⟩)] w fun e w' => e = .returned (.int .i64 D.loose.length) ∧ w = w' := by
  obtain ⟨m, A, c, h⟩ := h
  have c2 := h.c2
  go_enter Try.func15, Try.ntmps15
  go_wp2
  go_ret
  exact ⟨rfl, rfl⟩
set_option maxHeartbeats 400000 in
theorem Dead_any (w : World) {B g : Nat} {D : DS} (h : IsDisk w B g D) : Calls Try.prog 18 #[.pointer (some ⟨g, 0, none⟩)] w fun e w' => e = .returned (.bool D.dead) ∧ w = w' := by
  obtain ⟨m, A, c, h⟩ := h
  have c4 := h.c4
  go_enter Try.func18, Try.ntmps18
  go_wp2
  go_ret
  exact ⟨rfl, rfl⟩
def failD (D : DS) (after : Int) : DS := { D with fails := if after < -1 then -1 else after }
set_option maxHeartbeats 400000 in
theorem Fail_any (w : World) {B g : Nat} {D : DS} (h : IsDisk w B g D) (after : Int) (ha : after ≤ 9223372036854775807) : Calls Try.prog 19 #[.pointer (some ⟨g, 0, none⟩), .int .i64 after] w fun e w' => e = .returned (.tuple #[]) ∧ IsDisk w' B g (failD D after) ∧ DFr B w w' := by
  obtain ⟨m, A, c, h⟩ := h
  have c3 := h.c3
  have f3 := h.blk.frozen 3
  by_cases h1 : after < -1
  · have hset := h.set (i := 3) (v := .int .i64 (-1)) (setCell_put h.blk _) (D' := failD D after) (by unfold failD; rw [if_pos h1]; rfl) rfl rfl ⟨h.ok.n1, h.ok.g256, h.ok.l256, h.ok.room, by unfold failD; rw [if_pos h1]; show (-1 : Int) ≤ -1; omega, by unfold failD; rw [if_pos h1]; show (-1 : Int) ≤ _; omega⟩
    have HS := hid hset
    clear hset
    go_enter Try.func19, Try.ntmps19
    go_wp2
    go_end0
    exact ⟨rfl, ⟨m, A, c, HS.out.1⟩, HS.out.2⟩
  · have hset := h.set (i := 3) (v := .int .i64 after) (setCell_put h.blk _) (D' := failD D after) (by unfold failD; rw [if_neg h1]; rfl) rfl rfl ⟨h.ok.n1, h.ok.g256, h.ok.l256, h.ok.room, by unfold failD; rw [if_neg h1]; show (-1 : Int) ≤ after; omega, by unfold failD; rw [if_neg h1]; exact ha⟩
    have HS := hid hset
    clear hset
    go_enter Try.func19, Try.ntmps19
    go_wp2
    go_end0
    exact ⟨rfl, ⟨m, A, c, HS.out.1⟩, HS.out.2⟩
end Go.Proofs.Ytnbjoebdbbhbkaa
