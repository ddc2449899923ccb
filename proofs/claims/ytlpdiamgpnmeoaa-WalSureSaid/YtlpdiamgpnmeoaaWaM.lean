
/- Records: lay's closure walked. -/
import Derived.Test.YtlpdiamgpnmeoaaWaW
import Derived.Test.YtlpdiamgpnmeoaaFlowR
import Derived.Shelf.Abstract
namespace Go.Proofs.Ytlpdiamgpnmeoaa
open Go.RowKit
set_option linter.unusedVariables false
attribute [local go_sem] Oper.semAt_some
theorem wide_round (l : Nat) : ∀ f, (Fence.wide.inRound l).fn f := fun _ => trivial
/-- A piece, filled up to a block. -/
def pcC (c : List UInt8) (x : Nat) : List UInt8 := (c.drop (256 * x)).take 256
def blkC (c : List UInt8) (x : Nat) : List UInt8 := pcC c x ++ zer (256 - (pcC c x).length)
theorem pcC_len (c : List UInt8) (x : Nat) : (pcC c x).length = lenC c.length x := by
  unfold pcC lenC
  rw [List.length_take, List.length_drop]
  split <;> omega
theorem lenC_le (n x : Nat) : lenC n x ≤ 256 := by unfold lenC; split <;> omega
theorem blkC_len (c : List UInt8) (x : Nat) : (blkC c x).length = 256 := by
  have := lenC_le c.length x
  rw [← pcC_len] at this
  unfold blkC
  rw [List.length_append, zer_len]
  omega
/-- One piece laid: the error, the disk, how many were laid. -/
def layStep (f : Nat) (c : List UInt8) (s : Int × DS × Nat) (x : Nat) : Int × DS × Nat :=
  if s.1 = 0 then (writeE s.2.1 ((f + s.2.2 : Nat) : Int) (blkC c x), writeD s.2.1 ((f + s.2.2 : Nat) : Int) (blkC c x), s.2.2 + 1) else s
def layP (D : DS) (f : Nat) (c : List UInt8) (xs : List Nat) : Int × DS × Nat := xs.foldl (layStep f c) (0, D, 0)
def piecesN (c : List UInt8) : Nat := (c.length + 255) / 256
def layE (D : DS) (f : Nat) (c : List UInt8) : Int := (layP D f c (List.range (piecesN c))).1
def layD (D : DS) (f : Nat) (c : List UInt8) : DS := (layP D f c (List.range (piecesN c))).2.1
theorem layP_snoc (D : DS) (f : Nat) (c : List UInt8) (xs : List Nat) (x : Nat) : layP D f c (xs ++ [x]) = layStep f c (layP D f c xs) x := by simp [layP]
theorem layP_nil (D : DS) (f : Nat) (c : List UInt8) : layP D f c [] = (0, D, 0) := rfl
theorem layStep_stuck {f : Nat} {c : List UInt8} {s : Int × DS × Nat} (h : s.1 ≠ 0) : ∀ xs : List Nat, xs.foldl (layStep f c) s = s
  | [] => rfl
  | x :: xs => by
    rw [List.foldl_cons, show layStep f c s x = s from if_neg h]
    exact layStep_stuck h xs
theorem layP_stop {D : DS} {f : Nat} {c : List UInt8} {k m : Nat} (hk : k ≤ m) (h : (layP D f c (List.range k)).1 ≠ 0) : layP D f c (List.range m) = layP D f c (List.range k) := by
  obtain ⟨d, rfl⟩ := Nat.exists_eq_add_of_le hk
  rw [List.range_add]
  unfold layP at h ⊢
  rw [List.foldl_append, layStep_stuck h]
theorem writeD_loose (D : DS) (i : Int) (l : List UInt8) : (writeD D i l).loose.length ≤ D.loose.length + 1 := by
  unfold writeD
  split
  · omega
  · split
    · split
      · split
        · show ((countD D).loose ++ _).length ≤ _
          rw [List.length_append, countD_loose]
          exact Nat.le_refl _
        · rw [countD_loose]; omega
      · omega
    · omega
theorem layP_loose (D : DS) (f : Nat) (c : List UInt8) : ∀ (xs : List Nat) (s : Int × DS × Nat), (xs.foldl (layStep f c) s).2.1.loose.length ≤ s.2.1.loose.length + xs.length
  | [], s => Nat.le_refl _
  | x :: xs, s => by
    rw [List.foldl_cons]
    have h := layP_loose D f c xs (layStep f c s x)
    have h2 : (layStep f c s x).2.1.loose.length ≤ s.2.1.loose.length + 1 := by
      unfold layStep
      split
      · exact writeD_loose _ _ _
      · omega
    rw [List.length_cons]
    omega
theorem layP_count {D : DS} {f : Nat} {c : List UInt8} {xs : List Nat} (h : (layP D f c xs).1 = 0) : (layP D f c xs).2.2 = xs.length := by
  suffices H : ∀ (xs : List Nat) (s : Int × DS × Nat), (xs.foldl (layStep f c) s).1 = 0 → (xs.foldl (layStep f c) s).2.2 = s.2.2 + xs.length by
    have := H xs (0, D, 0) h
    rw [Nat.zero_add] at this
    exact this
  intro xs
  induction xs with
  | nil => intro s _; rfl
  | cons x xs ih =>
    intro s hs
    rw [List.foldl_cons] at hs ⊢
    by_cases h0 : s.1 = 0
    · rw [ih _ hs, show (layStep f c s x).2.2 = s.2.2 + 1 by unfold layStep; rw [if_pos h0], List.length_cons]
      omega
    · rw [show layStep f c s x = s from if_neg h0, layStep_stuck h0] at hs
      exact absurd hs h0
theorem DFr.put_new {B g t : Nat} {w W W' : World} {cs : Array Value} (h : DFr B w W) (hp : Put W W' g t cs) (hg : w.heap.size ≤ g) (hB : B ≤ w.heap.size) : DFr B w W' :=
  ⟨h.below.trans (hp.below (Nat.le_trans hB hg)), fun k cs' t' fr hk h1 h2 => (hp.oth k (by have := (Array.getElem?_eq_some_iff.1 hk).1; omega)).trans (h.keep k cs' t' fr hk h1 h2)⟩
abbrev tErr : Nat := 27
abbrev tInt : Nat := 3
theorem gives_sliceLow {o : Oper} {a : Act} {w : World} (x y : Operand) (ho : o.op = .slice tBy x (some y) none none) {A : Option Addr} {n c k : Nat} (hx : a.eval x = .slice A n c) {ki : Int} (hy : a.eval y = .int .i64 ki) (hki : ki = (k : Int)) (hk : k ≤ n) (hc : n ≤ c) (hm : c ≤ 9223372036854775807) :
    gives Try.prog o a w (fun v w' => w' = w ∧ ∃ A2 c2, v = .slice A2 (n - k) c2 ∧ n - k ≤ c2 ∧ c2 ≤ 9223372036854775807 ∧ (k < n → A2 = A.map (fun x => x.add k))) := by
  subst hki
  have h1 : (k : Int) ≤ (n : Int) := by omega
  have h2 : (n : Int) ≤ (c : Int) := by omega
  unfold gives execOp
  rw [ho]
  simp only [hx, hy, Option.map_some, Option.map_none]
  go_simp
  exact ⟨rfl, _, _, rfl, by omega, by omega, fun hlt => if_neg (by omega)⟩
theorem results_cell1 {P : Program} {fn : Func} {p : Tmp} {ty : TypeId} (h : fn.results = #[.cell p ty]) {tmps : Array Value} {w : World} {g : Nat} {v : Value}
    (hp : tmps.getD p undef = .pointer (some ⟨g, 0, none⟩)) (hA : ∀ w, (isAgg ty).run P w = .ok false w) (hc : w.cell? ⟨g, 0, none⟩ = some v) :
    (results fn tmps).run P w = .ok v w := by
  have hp' : tmps[p]?.getD undef = .pointer (some ⟨g, 0, none⟩) := by simpa using hp
  simp [results, h, hp', asAddr, loadVar, Sem.run_bind, hA, hc]
theorem notAgg {P : Program} {ty : Nat} {d : TypeDesc} (hu : P.underlying ty = some d) (hd : (match d with | .struct _ | .array _ _ => true | _ => false) = false) : ∀ w, (isAgg ty).run P w = .ok false w := by
  intro w
  unfold isAgg
  rw [Sem.run_bind, run_underlying hu w]
  cases d <;> simp_all
theorem naErr : ∀ w, (isAgg tErr).run Try.prog w = .ok false w := notAgg Try.underlying27 rfl
theorem rd_sub {w : World} {B g off : Nat} {xs : List Value} (h : Rd w B (some ⟨g, off, none⟩) xs) (j l : Nat) : Rd w B (some ⟨g, off + j, none⟩) ((xs.drop j).take l) := by
  rcases h with h | ⟨b, o, e, hb, hc⟩
  · subst h
    exact .inl (by simp)
  · injection e with e
    injection e with e1 e2
    subst e1 e2
    refine .inr ⟨g, off + j, rfl, hb, fun i v hv => ?_⟩
    have hi : i < l := by
      have := (List.getElem?_eq_some_iff.1 hv).1
      rw [List.length_take] at this
      omega
    rw [List.getElem?_take, if_pos hi, List.getElem?_drop] at hv
    have := hc (j + i) v hv
    rwa [← Nat.add_assoc] at this
/-- What abides the turn of a block that is no cells. -/
theorem blk_turn {X Y : World} {row : Option Nat} {n g t : Nat} {cs : Array Value} (hb : Blk X g t cs) (hg : X.grownBy Y row) (hr : ∀ r, row = some r → n ≤ r ∧ ∃ o : Obj, X.heap[r]? = some o ∧ o.isCells = false) : Blk Y g t cs :=
  (hg.block g hb.lt (fun e => by
    obtain ⟨_, o, ho, hc⟩ := hr g e.symm
    unfold Blk at hb
    rw [ho] at hb
    cases hb
    cases hc)).trans hb
theorem IsDm.turn {X Y : World} {row : Option Nat} {n B g m : Nat} {D : DS} (h : IsDm X B g m D) (hm : m < n) (hg : X.grownBy Y row) (hr : ∀ r, row = some r → n ≤ r ∧ ∃ o : Obj, X.heap[r]? = some o ∧ o.isCells = false) : IsDm Y B g m D := by
  obtain ⟨A, c, h⟩ := h
  refine ⟨A, c, h.ok, blk_turn h.blk hg hr, h.map.of_same (hg.block m h.map.lt (fun e => by have := (hr m e.symm).1; omega)), h.own.kept hg ?_, h.gB, h.mB⟩
  cases row with
  | none =>
    cases A with
    | none => exact .inl rfl
    | some a => exact .inr (by simp [Value.ownBlock])
  | some r =>
    obtain ⟨_, o, ho, hc⟩ := hr r rfl
    exact .inr (own_ne h.own ho (fun cur hx => by subst hx; cases hc))
theorem DFr.turn {X Y w : World} {row : Option Nat} {n B : Nat} (h : DFr B w X) (hB : B ≤ n) (hBw : B ≤ w.heap.size) (hg : X.grownBy Y row) (hr : ∀ r, row = some r → n ≤ r ∧ ∃ o : Obj, X.heap[r]? = some o ∧ o.isCells = false) : DFr B w Y := by
  refine ⟨h.below.grown hg (Nat.le_trans hBw h.below.size) (fun k e => by have := (hr k e).1; omega), fun k cs t fr hk h1 h2 => ?_⟩
  have hx := h.keep k cs t fr hk h1 h2
  refine (hg.block k (Array.getElem?_eq_some_iff.1 hx).1 (fun e => ?_)).trans hx
  obtain ⟨_, o, ho, hc⟩ := hr k e.symm
  rw [hx] at ho
  cases ho
  cases hc
/-- Another block is written. -/
theorem IsD.put_int {w w1 : World} {B g m c g' t' : Nat} {D : DS} {A : Option Addr} {c0 c1 : Array Value} (h : IsD w B g D m A c) (hb : Blk w g' t' c0) (hp : Put w w1 g' t' c1) (h1 : t' ≠ tDisk) (h2 : t' ≠ tLoose) : IsD w1 B g D m A c := by
  have hg : g ≠ g' := by
    rintro rfl
    have := h.blk
    unfold Blk at this hb
    rw [hb] at this
    injection this with this
    injection this with _ this
    exact h1 this
  exact ⟨h.ok, hp.other h.blk hg, h.map.of_same (hp.oth m (fun e => h.map.ne_blk hb e.symm)), ownOther h.own hp (own_ne h.own hb (fun cur hx => by injection hx with _ hx; exact h2 hx)), h.gB, h.mB⟩
/-- What the rounds keep. -/
structure LayI (w w8 : World) (B g md f k0 g4 g5 gs : Nat) (c : List UInt8) (sl : Value) (D : DS) (xs : List Nat) (W : World) : Prop where
  ok : (layP D f c xs).1 = 0
  dm : IsDm W B g md (layP D f c xs).2.1
  b5 : Blk W g5 tInt #[.int .i64 ((k0 + xs.length : Nat) : Int)]
  b4 : Blk W g4 tErr #[.int .i64 0]
  bs : Blk W gs tBy #[sl]
  bn : Blk W (gs + 1) tInt #[.int .i64 256]
  fr : DFr B w W
  sz : w8.heap.size ≤ W.heap.size
structure LayX (w w8 : World) (B g md f g4 : Nat) (c : List UInt8) (D : DS) (xs : List Nat) (W : World) : Prop where
  bad : (layP D f c xs).1 ≠ 0
  dm : IsDm W B g md (layP D f c xs).2.1
  b4 : Blk W g4 tErr #[.int .i64 (layP D f c xs).1]
  fr : DFr B w W
  sz : w8.heap.size ≤ W.heap.size
set_option maxRecDepth 100000 in
set_option maxHeartbeats 1000000 in
theorem lay1_any (w : World) {B gl g : Nat} {D : DS} {L : LS} {vb vr : Value} {vs : List Value} (h : IsLog w B gl g D L vb vr vs) (hB : B ≤ w.heap.size) (hs : L.size ≤ 1000000) {p0 p1 p2 p3 area fr : Nat} {Ab : Option Addr} {cb' : Nat} {b : List UInt8}
    (h0 : Blk w p0 30 #[.pointer (some ⟨gl, 0, none⟩)]) (h1 : Blk w p1 tInt #[.int .i64 (area : Int)]) (h2 : Blk w p2 tBy #[.slice Ab b.length cb']) (h3 : Blk w p3 tInt #[.int .i64 (fr : Int)])
    (hb : SlO w (.slice Ab b.length cb') b) (ha : area < 2) (hfr : fr ≤ b.length) (hbl : b.length ≤ 300000000) (hroom : D.loose.length + b.length < 1000000) :
    Calls Try.prog 50 #[.pointer (some ⟨p3, 0, none⟩), .pointer (some ⟨p2, 0, none⟩), .pointer (some ⟨p0, 0, none⟩), .pointer (some ⟨p1, 0, none⟩)] w fun e w' =>
      e = .returned (.int .i64 (layE D (2 + area * L.size + fr / 256) (b.drop (fr / 256 * 256)))) ∧ IsDisk w' B g (layD D (2 + area * L.size + fr / 256) (b.drop (fr / 256 * 256))) ∧ DFr B w w' := by
  have hdisk := h.disk
  obtain ⟨md, hdm⟩ : ∃ md, IsDm w B g md D := hdisk
  have q0 : w.cell? ⟨p0, 0, none⟩ = some (.pointer (some ⟨gl, 0, none⟩)) := h0.cell 0
  have q1 : w.cell? ⟨p1, 0, none⟩ = some (.int .i64 (area : Int)) := h1.cell 0
  have q2 : w.cell? ⟨p2, 0, none⟩ = some (.slice Ab b.length cb') := h2.cell 0
  have q3 : w.cell? ⟨p3, 0, none⟩ = some (.int .i64 (fr : Int)) := h3.cell 0
  obtain ⟨Ab', cb2, e1, hcb, hcm, hrd, hout⟩ := hb
  injection e1 with e1 _ e2
  subst e1 e2
  have l0 := h0.lt
  have l1 := h1.lt
  have l2 := h2.lt
  have l3 := h3.lt
  obtain ⟨k0, hk0⟩ : ∃ k0, k0 = fr / 256 := ⟨_, rfl⟩
  rw [← hk0]
  obtain ⟨c, hc⟩ : ∃ c, c = b.drop (k0 * 256) := ⟨_, rfl⟩
  obtain ⟨f, hf⟩ : ∃ f, f = 2 + area * L.size + k0 := ⟨_, rfl⟩
  rw [← hc, ← hf]
  have HC := hid hc
  have HF := hid hf
  clear hc hf
  have hk1 : k0 * 256 ≤ b.length := by omega
  have hq : (fr : Int).tdiv 256 = (k0 : Int) := by rw [Int.tdiv_eq_ediv_of_nonneg (by omega)]; omega
  obtain ⟨n, hn⟩ : ∃ n, n = b.length := ⟨_, rfl⟩
  rw [← hn] at q2 hcb hk1 hfr hbl hroom
  have hki : (k0 : Int) * 256 ≤ (n : Int) := by omega
  have hni : (n : Int) ≤ 300000000 := by omega
  have hcm' : cb' ≤ 9223372036854775807 := hcm
  have hci : (n : Int) ≤ (cb' : Int) := by omega
  have HK0 := hid hk0
  have HN := hid hn
  have HL := hid h
  have H0 := hid h0
  have H1 := hid h1
  have HRD := hid hrd
  have HOUT := hid hout
  have HDM := hid hdm
  clear hk0 hn h hrd hout hdm h0 h1 h2 h3 hfr hcm
  refine callsIn_wide.1 (callsIn_of_wp_marks (n := 10) Try.func50 rfl trivial (wpIn_wide.2 ?_) rfl)
  simp only [Try.ntmps50, List.size_toArray, List.length_cons, List.length_nil, Nat.reduceAdd, Nat.reduceSub, Array.replicate_succ, Array.replicate_zero, List.push_toArray, List.append_toArray, List.nil_append, List.cons_append]
  go_wp2_with ((with_reducible refine wpAtC ?_); refine wpList_gives rfl (gives_sliceLow _ _ rfl rfl rfl (by push_cast; rfl) hk1 hcb hcm') ?_; rintro v w3 ⟨rfl, A2, c2, rfl, hc2, hm2, hA2⟩; simp only [Act.put, List.setIfInBounds_toArray, List.set_cons_succ, List.set_cons_zero])
  have hblk4 : Blk ((w.alloc (.cells #[.int .i64 0] tErr)).alloc (.cells #[.int .i64 (k0 : Int)] tInt)) w.heap.size tErr #[.int .i64 0] := (Blk.new w _ _).alloc _
  have hblk5 : Blk ((w.alloc (.cells #[.int .i64 0] tErr)).alloc (.cells #[.int .i64 (k0 : Int)] tInt)) (w.heap.size + 1) tInt #[.int .i64 (k0 : Int)] := by
    have := Blk.new (w.alloc (.cells #[.int .i64 0] tErr)) tInt #[.int .i64 (k0 : Int)]
    rwa [World.size_alloc] at this
  have hb7 : Below w.heap.size w ((w.alloc (.cells #[.int .i64 0] tErr)).alloc (.cells #[.int .i64 (k0 : Int)] tInt)) := bx_alloc (bx_alloc (Below.refl _ w) _) _
  have hs7 : ((w.alloc (.cells #[.int .i64 0] tErr)).alloc (.cells #[.int .i64 (k0 : Int)] tInt)).heap.size = w.heap.size + 2 := by simp
  generalize (w.alloc (.cells #[.int .i64 0] tErr)).alloc (.cells #[.int .i64 (k0 : Int)] tInt) = w7 at *
  refine (Chunk_any w7 _ _ _).mono ?_
  rintro e w8 ⟨rfl, hw8⟩
  obtain ⟨N, hNe⟩ : ∃ N, N = n - k0 * 256 := ⟨_, rfl⟩
  rw [← hNe] at hc2 hw8 ⊢
  have hbs8 : Blk w8 w7.heap.size tBy #[.slice A2 N c2] := by rw [hw8]; exact (Blk.new w7 tBy _).alloc _
  have hbn8 : Blk w8 (w7.heap.size + 1) tInt #[.int .i64 256] := by
    rw [hw8]
    have := Blk.new (w7.alloc (.cells #[.slice A2 N c2] tBy)) tInt #[.int .i64 256]
    rwa [World.size_alloc] at this
  have hb78 : Below w7.heap.size w7 w8 := by rw [hw8]; exact bx_alloc (bx_alloc (Below.refl _ _) _) _
  have hs8 : w8.heap.size = w7.heap.size + 2 := by rw [hw8]; simp
  have hb08 := bx_trans hb7 hb78
  have hb48 := hblk4.below hb78 hblk4.lt
  have hb58 := hblk5.below hb78 hblk5.lt
  clear hw8 hblk4 hblk5
  obtain ⟨gs, hgs⟩ : ∃ gs, gs = w7.heap.size := ⟨_, rfl⟩
  have hgsw : gs = w.heap.size + 2 := by omega
  rw [← hgs] at hbs8 hbn8 hs8 ⊢
  obtain ⟨m, hm⟩ : ∃ m, m = (N + 255) / 256 := ⟨_, rfl⟩
  have hm1 : 256 * m < N + 256 := by omega
  have hm2 : N ≤ 256 * m := by omega
  -- where the bytes lie
  have hpl : ∃ gb o, (1 ≤ m → A2 = some ⟨gb, o, none⟩) ∧ ∀ (W : World), DFr B w W → ∀ x, 1 ≤ m → Rd W W.heap.size (some ⟨gb, o + 256 * x, none⟩) ((pcC (b.drop (k0 * 256)) x).map cb) := by
    by_cases h1m : 1 ≤ m
    · have hlt : k0 * 256 < n := by omega
      obtain ⟨gb, off, rfl, _, _⟩ := HRD.out.at_ (k := 0) (by rw [List.length_map, ← HN.out]; omega)
      refine ⟨gb, off + k0 * 256, fun _ => by rw [hA2 hlt]; simp [add_off], fun W hd x _ => ?_⟩
      have hrw : Rd W W.heap.size (some ⟨gb, off, none⟩) (b.map cb) := (HRD.out.dfr (fun a ha => by obtain ⟨cs, fr, hh⟩ := HOUT.out a ha; exact ⟨cs, _, fr, hh, by decide, by decide⟩) hd).more hd.below.size
      have := rd_sub (rd_sub hrw (k0 * 256) b.length) (256 * x) 256
      rw [show (pcC (b.drop (k0 * 256)) x).map cb = ((((b.map cb).drop (k0 * 256)).take b.length).drop (256 * x)).take 256 by
        unfold pcC
        rw [List.map_take, List.map_drop, List.map_drop, List.take_of_length_le (l := (b.map cb).drop (k0 * 256)) (by rw [List.length_drop, List.length_map]; omega)]]
      exact this
    · exact ⟨0, 0, fun h => absurd h h1m, fun _ _ _ h => absurd h h1m⟩
  obtain ⟨gb, o, hA2', hpc⟩ := hpl
  rw [← HC.out] at hpc
  have hcN : c.length = N := by rw [HC.out, List.length_drop, ← HN.out, hNe]
  have hmc : piecesN c = m := by unfold piecesN; rw [hcN, hm]
  have HMC := hid hmc
  have HPC := hid hpc
  have hNle : N ≤ n := by omega
  clear hmc hpc hm hNe hA2 q2
  have hKb : ∀ (W : World) (k : Nat) (o o' : Obj), w8.heap.size ≤ k → W.heap[k]? = some o → o.isCells = false → o.isWalk = false → KpB gs (gs + 1) W (W.putObj k o') := by
    intro W k o o' hk ho _ _
    have hkl := (Array.getElem?_eq_some_iff.1 ho).1
    exact ⟨(grownBy_putObj' W k o').block _ (by omega) (by intro e; injection e with e; omega), (grownBy_putObj' W k o').block _ (by omega) (by intro e; injection e with e; omega)⟩
  have hseq : SeqStopsK Fence.wide (10 - 1) Try.prog 59 #[.pointer (some ⟨gs, 0, none⟩), .pointer (some ⟨gs + 1, 0, none⟩)] (fun x : Fin m => #[.slice (some ⟨gb, o + 256 * x.val, none⟩) (lenC N x.val) (lenC N x.val)]) (KpB gs (gs + 1)) (fun ys => ys.map Fin.val = List.range m) (fun ys => ∃ k, k ≤ m ∧ ys.map Fin.val = List.range k) m w8 :=
    fun k J Jx W hW hJ _ hY h0 => chunk1_in 9 (by decide) m k gs (gs + 1) gb c2 (by omega) o N hm1 hm2 hc2 (by assumption) W A2 hA2' J Jx W.heap.size hJ hY ((hW.cell (p := ⟨gs, 0, none⟩) hbs8.lt).trans (hbs8.cell 0)) ((hW.cell (p := ⟨gs + 1, 0, none⟩) hbn8.lt).trans (hbn8.cell 0)) h0
  have HS := hid hseq
  have HKB := hid hKb
  have hmd : md < w.heap.size := by obtain ⟨A, c, hI⟩ := HDM.out; exact hI.map.lt
  have hI8 : LayI w w8 B g md f k0 w.heap.size (w.heap.size + 1) gs c (.slice A2 N c2) D [] w8 := ⟨rfl, HDM.out.below hb08, hb58, hb48, hbs8, hbn8, DFr.of_below hb08 hB, Nat.le_refl _⟩
  clear hseq hKb hb48 hb58 hbs8 hbn8 hA2'
  have h8s := hb08.size
  have hgsw2 : w.heap.size + 2 ≤ gs := by omega
  have hs82 : gs + 2 ≤ w8.heap.size := by omega
  clear hgs hs8 hgsw hs7
  go_wp2_with fail
  refine wpIn_wide.1 (wpIn_rangeFunc_ownH (n := 10) (F := Fence.wide) rfl (by decide) (gf := 59) (lb := #[.pointer (some ⟨gs, 0, none⟩), .pointer (some ⟨gs + 1, 0, none⟩)]) rfl trivial (enters_of Try.func59 (by kernel_rfl) rfl) HS.out KpB.trans HKB.out (Below.refl _ _) (fun _ => rfl)
    (fun pre W => LayI w w8 B g md f k0 w.heap.size (w.heap.size + 1) gs c (.slice A2 N c2) D (pre.map Fin.val) W) (fun cc pre W => cc = .ret ∧ LayX w w8 B g md f w.heap.size c D (pre.map Fin.val) W) ?hI ?hIx hI8
    (fun x a' W => a' = { tmps := #[.pointer (some ⟨p3, 0, none⟩), .pointer (some ⟨p2, 0, none⟩), .pointer (some ⟨p0, 0, none⟩), .pointer (some ⟨p1, 0, none⟩), .pointer (some ⟨w.heap.size, 0, none⟩), .pointer (some ⟨w.heap.size + 1, 0, none⟩), .slice (some ⟨gb, o + 256 * x.val, none⟩) (lenC N x.val) (lenC N x.val), undef, .int .i64 (fr : Int), .int .i64 (k0 : Int), .slice Ab n cb', .int .i64 (k0 : Int), .int .i64 ((k0 : Int) * 256), .slice A2 N c2, .func (.func 59) #[] #[.pointer (some ⟨gs, 0, none⟩), .pointer (some ⟨gs + 1, 0, none⟩)], .slice (some ⟨gb, o + 256 * x.val, none⟩) (lenC N x.val) (lenC N x.val), undef, undef, undef, undef, undef, undef, undef, undef, undef, undef, undef, undef, undef, undef, undef, undef, undef, undef, undef, undef, undef, undef], defers := [] }) ?hAx ?assign ?body ?done ?stop)
  case hAx =>
    rintro x a' s X Y row e _ _
    exact e
  case assign =>
    rintro k pre x W K hI hK
    gi_wp2
    exact hK _ W ⟨Nat.le_refl _, fun q o _ hq _ => hq⟩ (KpB.refl _ _ _) hI rfl
  case hI =>
    intro s X Y row h hg hr
    exact ⟨h.ok, h.dm.turn (by omega) hg hr, blk_turn h.b5 hg hr, blk_turn h.b4 hg hr, blk_turn h.bs hg hr, blk_turn h.bn hg hr, h.fr.turn (by omega) hB hg hr, Nat.le_trans h.sz hg.size⟩
  case hIx =>
    rintro cc s X Y row ⟨e, h⟩ hg hr
    exact ⟨e, h.bad, h.dm.turn (by omega) hg hr, blk_turn h.b4 hg hr, h.fr.turn (by omega) hB hg hr, Nat.le_trans h.sz hg.size⟩
  case body =>
    rintro k pre x a' W hkl hlr hI rfl hlen
    have hx := x.isLt
    have h1m : 1 ≤ m := by omega
    have hsn : (pre ++ [x]).map Fin.val = pre.map Fin.val ++ [x.val] := by rw [List.map_append]; rfl
    obtain ⟨xs, hxs⟩ : ∃ xs, xs = pre.map Fin.val := ⟨_, rfl⟩
    have hxl : xs.length < m := by rw [hxs, List.length_map]; exact hlen
    rw [← hxs] at hsn hI
    obtain ⟨X, hX⟩ : ∃ X, X = x.val := ⟨_, rfl⟩
    rw [← hX] at hsn ⊢
    have HSN := hid hsn
    obtain ⟨E, hE⟩ : ∃ E, E = (layP D f c xs).2.1 := ⟨_, rfl⟩
    have hcnt := layP_count hI.ok
    have hlo := layP_loose D f c xs (0, D, 0)
    have hElo : E.loose.length < 1000000 := by
      have : E.loose.length ≤ D.loose.length + xs.length := by rw [hE]; exact hlo
      omega
    have hnext : layP D f c (xs ++ [X]) = (writeE E ((f + xs.length : Nat) : Int) (blkC c X), writeD E ((f + xs.length : Nat) : Int) (blkC c X), xs.length + 1) := by
      rw [layP_snoc]
      unfold layStep
      rw [if_pos hI.ok, hcnt, ← hE]
    have hdm := hI.dm
    rw [← hE] at hdm
    have hpl := pcC_len c X
    rw [hcN] at hpl
    obtain ⟨y, hy⟩ : ∃ y, y = lenC N X := ⟨_, rfl⟩
    have hy6 := lenC_le N X
    have hrp := HPC.out W hI.fr X h1m
    obtain ⟨pc, hpcE⟩ : ∃ pc, pc = pcC c X := ⟨_, rfl⟩
    rw [← hpcE, ← hy] at hpl
    rw [← hpcE] at hrp
    rw [← hy] at hy6 ⊢
    have hbk : pc ++ zer (256 - y) = blkC c X := by
      unfold blkC
      rw [← hpcE, hpl]
    obtain ⟨bk, hbkE⟩ : ∃ bk, bk = blkC c X := ⟨_, rfl⟩
    have hbkl : bk.length = 256 := by rw [hbkE]; exact blkC_len _ _
    rw [← hbkE] at hnext hbk
    obtain ⟨q, hq2⟩ : ∃ q, q = xs.length := ⟨_, rfl⟩
    have hqm : q < m := by omega
    have hb5 := hI.b5
    rw [← hq2] at hb5 hnext
    have HBK := hid hbk
    have HBL := hid hbkl
    have HPL := hid hpl
    have HDM2 := hid hdm
    have HRP := hid hrp
    have HI := hid hI
    have hfrW := hI.fr
    have ky : ∀ {g t : Nat} {cs : Array Value}, Blk w g t cs → t ≠ tDisk → t ≠ tLoose → Blk W g t cs := fun {g t cs} hb h1 h2 => hfrW.keep g cs t (0, 0) hb h1 h2
    have q0W : W.cell? ⟨p0, 0, none⟩ = some (.pointer (some ⟨gl, 0, none⟩)) := (ky H0.out (by decide) (by decide)).cell 0
    have q1W : W.cell? ⟨p1, 0, none⟩ = some (.int .i64 (area : Int)) := (ky H1.out (by decide) (by decide)).cell 0
    have hlW : Blk W gl tLog (logc g L vb vr) := ky HL.out.blk (by decide) (by decide)
    have lW0 := (ky H0.out (by decide) (by decide)).lt
    have lW1 := (ky H1.out (by decide) (by decide)).lt
    have lWl := hlW.lt
    have lW5 := hb5.lt
    have c0W : W.cell? ⟨gl, 0, none⟩ = some (.pointer (some ⟨g, 0, none⟩)) := hlW.cell 0
    have c5W : W.cell? ⟨w.heap.size + 1, 0, none⟩ = some (.int .i64 ((k0 + q : Nat) : Int)) := hb5.cell 0
    have hasz : area * L.size ≤ 1 * 1000000 := Nat.mul_le_mul (by omega) hs
    obtain ⟨F0, hF0⟩ : ∃ F0, F0 = 2 + area * L.size := ⟨_, rfl⟩
    have hF1 : f + q = F0 + (k0 + q) := by rw [HF.out, hF0]; omega
    have hF2 : F0 ≤ 1000002 := by omega
    obtain ⟨z, hz⟩ : ∃ z : Int, z = ((F0 + (k0 + q) : Nat) : Int) := ⟨_, rfl⟩
    have hzi : (F0 : Int) + ((k0 + q : Nat) : Int) = z := by rw [hz]; push_cast; rfl
    rw [show f + q = F0 + (k0 + q) from hF1, ← hz] at hnext
    have HZ := hid hzi
    have HF1 := hid hF1
    have HF0 := hid hF0
    have HQ := hid hq2
    have HNX := hid hnext
    have hmk := run_mk1 elU8 .i64 .i64 (256 - y) (by omega) (by omega)
    have hyi : (256 : Int) - (y : Int) = ((256 - y : Nat) : Int) := by omega
    have h8W := hI.sz
    have hBW : B ≤ W.heap.size := by omega
    clear hsn hxs hX hE hcnt hlo hnext hbk hbkl hbkE hpl hpcE hy hq2 hb5 hdm hrp hI hF1 hF0 hz hzi ky hfrW hasz hlen hx
    gi_wp2
    refine wp_flowQIn (by rintro ⟨_, _, hl_⟩; exact hl_) (by kernel_rfl) (by kernel_rfl) [0, 1, 3, 7, 0, 0, 48, 0, 240, 0, 0, 1024, 3072, 7168, 15872, 32368, 65535, 131071] 16 [false, false, false, false, false, false, false, false, false, false, false, false, false, false, false, false, true, true, true, true, true, true, true, true, true, true, true, true, true, true, true, true, true] (by kernel_rfl) (by decide) (by kernel_rfl) [FP.eq (.pointer (some ⟨gl, 0, none⟩)), FP.eq (.pointer (some ⟨gl, 0, none⟩)), FP.eq (.pointer (some ⟨gl, 0, none⟩)), FP.eq (.pointer (some ⟨g, 0, none⟩)), FP.eq (.pointer (some ⟨gl, 0, none⟩)), FP.eq (.int .i64 (area : Int)), FP.eq (.int .i64 (F0 : Int)), FP.eq (.int .i64 ((k0 + q : Nat) : Int)), FP.eq (.int .i64 z), FP.eq (.slice (some ⟨gb, o + 256 * X, none⟩) y y), FP.eq (.slice (some ⟨gb, o + 256 * X, none⟩) y y), FP.eq (.int .i64 (y : Int)), FP.eq (.int .i64 ((256 - y : Nat) : Int)), FP.bytes (zer (256 - y)), FP.rows [pc, zer (256 - y)], FP.ownB W.heap.size bk] (fun v w' => v = .int .i64 (writeE E z bk) ∧ IsDm w' B g md (writeD E z bk) ∧ WFr B W w') ?_ (q_of rfl ⟨rfl, ?_⟩) ?_
    · refine allFrom_cons (stepQ_yes (by kernel_rfl) ?_) ?_
      · intro a_ w_ hk_
        have h2 : a_.eval (.tmp 2) = .pointer (some ⟨p0, 0, none⟩) := hk_.old 2 (by kernel_rfl)
        have hx_ := hk_.ext
        clear hk_
        refine flow_plain rfl ?_
        unfold gives
        have hc_ : ∀ v, a_.eval (.const v) = v := fun _ => rfl
        have hn_ : ∀ f, a_.eval (.func f) = .func (.func f) #[] #[] := fun _ => rfl
        have hcell := (hx_.cell (p := ⟨p0, 0, none⟩) lW0).trans q0W
        generalize a_.eval = ρ_ at *
        go_simp
        exact ⟨Below.refl _ _, rfl⟩
      refine allFrom_cons (stepQ_yes (by kernel_rfl) ?_) ?_
      · intro a_ w_ hk_
        have h16 : a_.eval (.tmp 16) = (.pointer (some ⟨gl, 0, none⟩)) := hk_.got 0 16 _ (by kernel_rfl) rfl rfl
        have hx_ := hk_.ext
        clear hk_
        refine flow_plain rfl ?_
        unfold gives
        have hc_ : ∀ v, a_.eval (.const v) = v := fun _ => rfl
        have hn_ : ∀ f, a_.eval (.func f) = .func (.func f) #[] #[] := fun _ => rfl
        generalize a_.eval = ρ_ at *
        go_simp
        exact ⟨Below.refl _ _, rfl⟩
      refine allFrom_cons (stepQ_yes (by kernel_rfl) ?_) ?_
      · intro a_ w_ hk_
        have h17 : a_.eval (.tmp 17) = (.pointer (some ⟨gl, 0, none⟩)) := hk_.got 1 17 _ (by kernel_rfl) rfl rfl
        have hx_ := hk_.ext
        clear hk_
        refine flow_plain rfl ?_
        unfold gives
        have hc_ : ∀ v, a_.eval (.const v) = v := fun _ => rfl
        have hn_ : ∀ f, a_.eval (.func f) = .func (.func f) #[] #[] := fun _ => rfl
        generalize a_.eval = ρ_ at *
        go_simp
        exact ⟨Below.refl _ _, rfl⟩
      refine allFrom_cons (stepQ_yes (by kernel_rfl) ?_) ?_
      · intro a_ w_ hk_
        have h18 : a_.eval (.tmp 18) = (.pointer (some ⟨gl, 0, none⟩)) := hk_.got 2 18 _ (by kernel_rfl) rfl rfl
        have hx_ := hk_.ext
        clear hk_
        refine flow_plain rfl ?_
        unfold gives
        have hc_ : ∀ v, a_.eval (.const v) = v := fun _ => rfl
        have hn_ : ∀ f, a_.eval (.func f) = .func (.func f) #[] #[] := fun _ => rfl
        have hcell := (hx_.cell (p := ⟨gl, 0, none⟩) lWl).trans c0W
        generalize a_.eval = ρ_ at *
        go_simp
        exact ⟨Below.refl _ _, rfl⟩
      refine allFrom_cons (stepQ_yes (by kernel_rfl) ?_) ?_
      · intro a_ w_ hk_
        have h2 : a_.eval (.tmp 2) = .pointer (some ⟨p0, 0, none⟩) := hk_.old 2 (by kernel_rfl)
        have hx_ := hk_.ext
        clear hk_
        refine flow_plain rfl ?_
        unfold gives
        have hc_ : ∀ v, a_.eval (.const v) = v := fun _ => rfl
        have hn_ : ∀ f, a_.eval (.func f) = .func (.func f) #[] #[] := fun _ => rfl
        have hcell := (hx_.cell (p := ⟨p0, 0, none⟩) lW0).trans q0W
        generalize a_.eval = ρ_ at *
        go_simp
        exact ⟨Below.refl _ _, rfl⟩
      refine allFrom_cons (stepQ_yes (by kernel_rfl) ?_) ?_
      · intro a_ w_ hk_
        have h3 : a_.eval (.tmp 3) = .pointer (some ⟨p1, 0, none⟩) := hk_.old 3 (by kernel_rfl)
        have hx_ := hk_.ext
        clear hk_
        refine flow_plain rfl ?_
        unfold gives
        have hc_ : ∀ v, a_.eval (.const v) = v := fun _ => rfl
        have hn_ : ∀ f, a_.eval (.func f) = .func (.func f) #[] #[] := fun _ => rfl
        have hcell := (hx_.cell (p := ⟨p1, 0, none⟩) lW1).trans q1W
        generalize a_.eval = ρ_ at *
        go_simp
        exact ⟨Below.refl _ _, rfl⟩
      refine allFrom_cons (stepQ_yes (by kernel_rfl) ?_) ?_
      · intro a_ w_ hk_
        have h20 : a_.eval (.tmp 20) = (.pointer (some ⟨gl, 0, none⟩)) := hk_.got 4 20 _ (by kernel_rfl) rfl rfl
        have h21 : a_.eval (.tmp 21) = (.int .i64 (area : Int)) := hk_.got 5 21 _ (by kernel_rfl) rfl rfl
        have hx_ := hk_.ext
        clear hk_
        refine flow_plain rfl ?_
        unfold gives
        have hc_ : ∀ v, a_.eval (.const v) = v := fun _ => rfl
        have hn_ : ∀ f, a_.eval (.func f) = .func (.func f) #[] #[] := fun _ => rfl
        generalize a_.eval = ρ_ at *
        go_simp
        exact (first_any w_ (hlW.below hx_ lWl) (size := L.size) (area := area) rfl hs (by omega)).mono fun e w' ⟨h1, h2⟩ => ⟨_, h1, h2 ▸ Below.refl _ _, by rw [HF0.out]; rfl⟩
      refine allFrom_cons (stepQ_yes (by kernel_rfl) ?_) ?_
      · intro a_ w_ hk_
        have h5 : a_.eval (.tmp 5) = .pointer (some ⟨w.heap.size + 1, 0, none⟩) := hk_.old 5 (by kernel_rfl)
        have hx_ := hk_.ext
        clear hk_
        refine flow_plain rfl ?_
        unfold gives
        have hc_ : ∀ v, a_.eval (.const v) = v := fun _ => rfl
        have hn_ : ∀ f, a_.eval (.func f) = .func (.func f) #[] #[] := fun _ => rfl
        have hcell := (hx_.cell (p := ⟨w.heap.size + 1, 0, none⟩) lW5).trans c5W
        generalize a_.eval = ρ_ at *
        go_simp
        exact ⟨Below.refl _ _, rfl⟩
      refine allFrom_cons (stepQ_yes (by kernel_rfl) ?_) ?_
      · intro a_ w_ hk_
        have h22 : a_.eval (.tmp 22) = (.int .i64 (F0 : Int)) := hk_.got 6 22 _ (by kernel_rfl) rfl rfl
        have h23 : a_.eval (.tmp 23) = (.int .i64 ((k0 + q : Nat) : Int)) := hk_.got 7 23 _ (by kernel_rfl) rfl rfl
        have hx_ := hk_.ext
        clear hk_
        refine flow_plain rfl ?_
        unfold gives
        have hc_ : ∀ v, a_.eval (.const v) = v := fun _ => rfl
        have hn_ : ∀ f, a_.eval (.func f) = .func (.func f) #[] #[] := fun _ => rfl
        generalize a_.eval = ρ_ at *
        go_simp
        exact ⟨Below.refl _ _, congrArg (Value.int _) ((i64_wrap (by omega) (by omega)).trans (by have := HZ.out; push_cast at this; exact this))⟩
      refine allFrom_cons (stepQ_yes (by kernel_rfl) ?_) ?_
      · intro a_ w_ hk_
        have h6 : a_.eval (.tmp 6) = .slice (some ⟨gb, o + 256 * X, none⟩) y y := hk_.old 6 (by kernel_rfl)
        have hx_ := hk_.ext
        clear hk_
        refine flow_plain rfl ?_
        exact gives_move rfl ⟨Below.refl _ _, h6⟩
      refine allFrom_cons (stepQ_yes (by kernel_rfl) ?_) ?_
      · intro a_ w_ hk_
        have h6 : a_.eval (.tmp 6) = .slice (some ⟨gb, o + 256 * X, none⟩) y y := hk_.old 6 (by kernel_rfl)
        have hx_ := hk_.ext
        clear hk_
        refine flow_plain rfl ?_
        exact gives_move rfl ⟨Below.refl _ _, h6⟩
      refine allFrom_cons (stepQ_yes (by kernel_rfl) ?_) ?_
      · intro a_ w_ hk_
        have h26 : a_.eval (.tmp 26) = (.slice (some ⟨gb, o + 256 * X, none⟩) y y) := hk_.got 10 26 _ (by kernel_rfl) rfl rfl
        have hx_ := hk_.ext
        clear hk_
        refine flow_plain rfl ?_
        unfold gives
        have hc_ : ∀ v, a_.eval (.const v) = v := fun _ => rfl
        have hn_ : ∀ f, a_.eval (.func f) = .func (.func f) #[] #[] := fun _ => rfl
        generalize a_.eval = ρ_ at *
        go_simp
        exact ⟨Below.refl _ _, rfl⟩
      refine allFrom_cons (stepQ_yes (by kernel_rfl) ?_) ?_
      · intro a_ w_ hk_
        have h27 : a_.eval (.tmp 27) = (.int .i64 (y : Int)) := hk_.got 11 27 _ (by kernel_rfl) rfl rfl
        have hx_ := hk_.ext
        clear hk_
        refine flow_plain rfl ?_
        unfold gives
        have hc_ : ∀ v, a_.eval (.const v) = v := fun _ => rfl
        have hn_ : ∀ f, a_.eval (.func f) = .func (.func f) #[] #[] := fun _ => rfl
        generalize a_.eval = ρ_ at *
        go_simp
        exact ⟨Below.refl _ _, congrArg (Value.int _) (i64_wrap (by omega) (by omega))⟩
      refine allFrom_cons (stepQ_yes (by kernel_rfl) ?_) ?_
      · intro a_ w_ hk_
        have h28 : a_.eval (.tmp 28) = (.int .i64 ((256 - y : Nat) : Int)) := hk_.got 12 28 _ (by kernel_rfl) rfl rfl
        have hx_ := hk_.ext
        clear hk_
        refine flow_plain rfl ?_
        unfold gives
        have hc_ : ∀ v, a_.eval (.const v) = v := fun _ => rfl
        have hn_ : ∀ f, a_.eval (.func f) = .func (.func f) #[] #[] := fun _ => rfl
        generalize a_.eval = ρ_ at *
        go_simp
        exact ⟨bx_alloc (Below.refl _ _) _, rdB_of_row (heap_new rfl) (by rw [zer_cb]) (zer_len _).symm (Nat.le_of_eq (zer_len _))⟩
      refine allFrom_cons (stepQ_yes (by kernel_rfl) ?_) ?_
      · intro a_ w_ hk_
        have h25 : a_.eval (.tmp 25) = (.slice (some ⟨gb, o + 256 * X, none⟩) y y) := hk_.got 9 25 _ (by kernel_rfl) rfl rfl
        have h29 : (FP.bytes (zer (256 - y))).p (a_.eval (.tmp 29)) w_ := hk_.got 13 29 _ (by kernel_rfl) rfl rfl
        have hx_ := hk_.ext
        clear hk_
        refine flow_plain rfl ?_
        unfold gives
        have hc_ : ∀ v, a_.eval (.const v) = v := fun _ => rfl
        have hn_ : ∀ f, a_.eval (.func f) = .func (.func f) #[] #[] := fun _ => rfl
        obtain ⟨A29, c29, h29, m29, r29⟩ := h29
        generalize a_.eval = ρ_ at *
        go_simp
        have hpcr : RdB w_ w_.heap.size (.slice (some ⟨gb, o + 256 * X, none⟩) y y) pc := ⟨_, _, by rw [HPL.out], Nat.le_of_eq HPL.out, (HRP.out.below hx_).more hx_.size⟩
        exact rdV_two hpcr ⟨A29, c29, rfl, m29, r29⟩ (Nat.le_refl _)
      refine allFrom_cons (stepQ_yes (by kernel_rfl) ?_) ?_
      · intro a_ w_ hk_
        have h30 : (FP.rows [pc, zer (256 - y)]).p (a_.eval (.tmp 30)) w_ := hk_.got 14 30 _ (by kernel_rfl) rfl rfl
        have hx_ := hk_.ext
        clear hk_
        refine flow_plain rfl ?_
        unfold gives
        have hc_ : ∀ v, a_.eval (.const v) = v := fun _ => rfl
        have hn_ : ∀ f, a_.eval (.func f) = .func (.func f) #[] #[] := fun _ => rfl
        obtain ⟨A30, c30, h30, r30⟩ := h30
        generalize a_.eval = ρ_ at *
        go_simp
        refine (Concat_any w_ (ls := [pc, zer (256 - y)]) r30 (Nat.le_refl _) (by simp) (by simp [zer_len, HPL.out]; omega)).mono fun e w' ⟨v, h1, h2, h3⟩ => ⟨v, h1, h3, ?_⟩
        have he : [pc, zer (256 - y)].flatten = bk := by rw [← HBK.out]; simp
        rw [he] at h2
        exact own_lessW h2 hx_.size
      exact allFrom_nil
    · intro a_ w_ hk_
      have h19 : a_.eval (.tmp 19) = (.pointer (some ⟨g, 0, none⟩)) := hk_.got 3 19 _ (by kernel_rfl) rfl rfl
      have h24 : a_.eval (.tmp 24) = (.int .i64 z) := hk_.got 8 24 _ (by kernel_rfl) rfl rfl
      have h31 : (FP.ownB W.heap.size bk).p (a_.eval (.tmp 31)) w_ := hk_.got 15 31 _ (by kernel_rfl) rfl rfl
      have hx_ := hk_.ext
      clear hk_
      obtain ⟨A31, c31, e31, hcc, hmm, _⟩ := own_form (show OwnB w_ W.heap.size (a_.eval (.tmp 31)) bk from h31)
      have hK31 := own_kp (B := B) (show OwnB w_ W.heap.size (.slice A31 bk.length c31) bk from e31 ▸ h31)
      have hW_ := Write_anyW (c := c31) w_ (HDM2.out.below hx_) (Nat.le_trans hBW hx_.size) z (by rw [HBL.out]; decide) hK31 (Nat.le_refl _) hElo
      clear hK31 h31
      unfold gives
      have hc_ : ∀ v, a_.eval (.const v) = v := fun _ => rfl
      have hn_ : ∀ f, a_.eval (.func f) = .func (.func f) #[] #[] := fun _ => rfl
      generalize a_.eval = ρ_ at *
      go_simp
      exact hW_.mono fun e w' ⟨h1, h2, h3⟩ => ⟨_, h1, rfl, h2, (WFr.of_below hx_ hBW).trans h3⟩
    intro f_ w_ hf_ ht_
    have h16 : f_ 16 = (.pointer (some ⟨gl, 0, none⟩)) := (hf_ 0 16 _ (by decide) rfl rfl).elim fun _ h => h
    have h17 : f_ 17 = (.pointer (some ⟨gl, 0, none⟩)) := (hf_ 1 17 _ (by decide) rfl rfl).elim fun _ h => h
    have h18 : f_ 18 = (.pointer (some ⟨gl, 0, none⟩)) := (hf_ 2 18 _ (by decide) rfl rfl).elim fun _ h => h
    have h19 : f_ 19 = (.pointer (some ⟨g, 0, none⟩)) := (hf_ 3 19 _ (by decide) rfl rfl).elim fun _ h => h
    have h20 : f_ 20 = (.pointer (some ⟨gl, 0, none⟩)) := (hf_ 4 20 _ (by decide) rfl rfl).elim fun _ h => h
    have h21 : f_ 21 = (.int .i64 (area : Int)) := (hf_ 5 21 _ (by decide) rfl rfl).elim fun _ h => h
    have h22 : f_ 22 = (.int .i64 (F0 : Int)) := (hf_ 6 22 _ (by decide) rfl rfl).elim fun _ h => h
    have h23 : f_ 23 = (.int .i64 ((k0 + q : Nat) : Int)) := (hf_ 7 23 _ (by decide) rfl rfl).elim fun _ h => h
    have h24 : f_ 24 = (.int .i64 z) := (hf_ 8 24 _ (by decide) rfl rfl).elim fun _ h => h
    have h25 : f_ 25 = (.slice (some ⟨gb, o + 256 * X, none⟩) y y) := (hf_ 9 25 _ (by decide) rfl rfl).elim fun _ h => h
    have h26 : f_ 26 = (.slice (some ⟨gb, o + 256 * X, none⟩) y y) := (hf_ 10 26 _ (by decide) rfl rfl).elim fun _ h => h
    have h27 : f_ 27 = (.int .i64 (y : Int)) := (hf_ 11 27 _ (by decide) rfl rfl).elim fun _ h => h
    have h28 : f_ 28 = (.int .i64 ((256 - y : Nat) : Int)) := (hf_ 12 28 _ (by decide) rfl rfl).elim fun _ h => h
    have ht := ht_ 32 _ rfl rfl
    clear ht_
    simp only [mix, List.drop_succ_cons, List.drop_zero, h16, h17, h18, h19, h20, h21, h22, h23, h24, h25, h26, h27, h28]
    clear h16 h17 h18 h19 h20 h21 h22 h23 h24 h25 h26 h27 h28
    clear hf_
    obtain ⟨h32, hdm2, hwf⟩ := ht
    rw [h32]
    clear h32
    obtain ⟨We, hWe⟩ : ∃ We, We = writeE E z bk := ⟨_, rfl⟩
    rw [← hWe]
    have hn2 := HNX.out
    rw [← hWe] at hn2
    have hn3 : (layP D f c (xs ++ [X])).1 = We ∧ (layP D f c (xs ++ [X])).2.1 = writeD E z bk := by rw [hn2]; exact ⟨rfl, rfl⟩
    have HN3 := hid hn3
    have hI2 := HI.out
    have hwk : ∀ {g t : Nat} {cs : Array Value}, Blk W g t cs → t ≠ tDisk → t ≠ tLoose → Blk w_ g t cs := fun {g t cs} hb h1 h2 => hwf.keep g cs t (0, 0) hb h1 h2
    have b4 := hwk hI2.b4 (by decide) (by decide)
    have b5 := hwk hI2.b5 (by decide) (by decide)
    have bs := hwk hI2.bs (by decide) (by decide)
    have bn := hwk hI2.bn (by decide) (by decide)
    have hfr2 := hI2.fr.trans hwf.toDFr
    have hsz2 := Nat.le_trans hI2.sz hwf.below.size
    rw [← HQ.out] at b5
    have c5 : w_.cell? ⟨w.heap.size + 1, 0, none⟩ = some (.int .i64 ((k0 + q : Nat) : Int)) := b5.cell 0
    have c4 : w_.cell? ⟨w.heap.size, 0, none⟩ = some (.int .i64 0) := b4.cell 0
    have f5 := b5.frozen 0
    have f4 := b4.frozen 0
    have hkq : ((k0 + q : Nat) : Int) < 2000000 := by omega
    clear hWe hn2 hn3 hI2 hwk
    by_cases he : We = 0
    · subst he
      go_wp2_with fail
      gi_wp2
      have hp := setCell_put b5 (i := 0) (.int .i64 ((k0 : Int) + (q : Int) + 1))
      have hs3 := hp.size
      have hwo := hwf.others
      have ns := hwf.below.size
      refine ⟨⟨by rw [hs3]; exact ns, fun r oo hr ho hc => ?_⟩, ⟨?_, ?_⟩, ?_⟩
      · have h2 := hwo r oo ho hc
        refine (hp.oth r (by
          rintro rfl
          have := b5
          unfold Blk at this
          rw [h2] at this
          cases this
          cases hc)).trans h2
      · exact ((hp.oth gs (by omega)).trans bs).trans HI.out.bs.symm
      · exact ((hp.oth (gs + 1) (by omega)).trans bn).trans HI.out.bn.symm
      · have hb5' := hp.blk
        have e5 : (#[Value.int IntKind.i64 ((k0 + q : Nat) : Int)]).setIfInBounds 0 (.int .i64 ((k0 : Int) + (q : Int) + 1)) = #[.int .i64 ((k0 + (xs ++ [X]).length : Nat) : Int)] := by
          rw [List.length_append, ← HQ.out, show [X].length = 1 from rfl]
          show #[Value.int .i64 ((k0 : Int) + (q : Int) + 1)] = _
          congr 2
        rw [e5] at hb5'
        show LayI w w8 B g md f k0 w.heap.size (w.heap.size + 1) gs c (.slice A2 N c2) D ((pre ++ [x]).map Fin.val) _
        rw [HSN.out]
        refine ⟨HN3.out.1, ?_, hb5', hp.other b4 (by omega), hp.other bs (by omega), hp.other bn (by omega), hfr2.put_new hp (by omega) hB, by rw [hs3]; exact hsz2⟩
        rw [HN3.out.2]
        obtain ⟨A9, c9, h9⟩ := hdm2
        exact ⟨A9, c9, h9.put_int b5 hp (by decide) (by decide)⟩
    · have e1 : (We == 0) = false := by simpa using he
      have e2 : (We != 0) = true := by simpa using he
      have HE := hid he
      clear he
      go_wp2_with fail
      gi_wp2
      have hp := setCell_put b4 (i := 0) (.int .i64 We)
      have hs3 := hp.size
      have hwo := hwf.others
      have ns := hwf.below.size
      refine ⟨⟨by rw [hs3]; exact ns, fun r oo hr ho hc => ?_⟩, ?_⟩
      · have h2 := hwo r oo ho hc
        refine (hp.oth r (by
          rintro rfl
          have := b4
          unfold Blk at this
          rw [h2] at this
          cases this
          cases hc)).trans h2
      · show Code.ret = .ret ∧ LayX w w8 B g md f w.heap.size c D ((pre ++ [x]).map Fin.val) _
        rw [HSN.out]
        refine ⟨rfl, by rw [HN3.out.1]; exact HE.out, ?_, by rw [HN3.out.1]; exact hp.blk, hfr2.put_new hp (Nat.le_refl _) hB, by rw [hs3]; exact hsz2⟩
        rw [HN3.out.2]
        obtain ⟨A9, c9, h9⟩ := hdm2
        exact ⟨A9, c9, h9.put_int b4 hp (by decide) (by decide)⟩
  case done =>
    rintro D' ys W hD hys hI hK
    have b4 := hI.b4
    have c4 : W.cell? ⟨w.heap.size, 0, none⟩ = some (.int .i64 0) := b4.cell 0
    have f4 := b4.frozen 0
    have HI := hid hI
    clear hI
    go_wp2_with fail
    have hI := HI.out
    have hp := setCell_put hI.b4 (i := 0) (.int .i64 0)
    have hKq : (W.setCell ⟨w.heap.size, 0, none⟩ (.int .i64 0)).heap[D']? = some (.deferred (some [])) := (hp.oth D' (by have := hI.sz; omega)).trans hK
    have hg := grownBy_putObj' (W.setCell ⟨w.heap.size, 0, none⟩ (.int .i64 0)) D' (.deferred none)
    have hr : ∀ r, some D' = some r → w8.heap.size ≤ r ∧ ∃ o : Obj, (W.setCell ⟨w.heap.size, 0, none⟩ (.int .i64 0)).heap[r]? = some o ∧ o.isCells = false := fun r e => by cases e; exact ⟨hD, _, hKq, rfl⟩
    have hfr2 := (hI.fr.put_new hp (Nat.le_refl _) hB).turn (n := w8.heap.size) (by omega) hB hg hr
    have hb4 := blk_turn hp.blk hg hr
    have hdm2 : IsDm (W.setCell ⟨w.heap.size, 0, none⟩ (.int .i64 0)) B g md (layP D f c (ys.map Fin.val)).2.1 := by
      obtain ⟨A9, c9, h9⟩ := hI.dm
      exact ⟨A9, c9, h9.put_int hI.b4 hp (by decide) (by decide)⟩
    have hdm3 := hdm2.turn (n := w8.heap.size) (by omega) hg hr
    have hok := hI.ok
    rw [hys] at hok hdm3
    refine ⟨by simp, .inl ⟨_, _, rfl, run_takeDeferred hKq, ?_⟩⟩
    refine ⟨_, results_cell1 rfl rfl naErr (hb4.cell 0), ?_, ?_, hfr2⟩
    · unfold layE
      rw [HMC.out, hok]
      rfl
    · unfold layD
      rw [HMC.out]
      exact hdm3.dk
  case stop =>
    rintro D' cc pre W hD ⟨km, hkm, hys⟩ ⟨rfl, hX⟩ hK
    have HX := hid hX
    clear hX
    gi_wp2
    go_wp2_with fail
    have hX := HX.out
    have hg := grownBy_putObj' W D' (.deferred none)
    have hr : ∀ r, some D' = some r → w8.heap.size ≤ r ∧ ∃ o : Obj, W.heap[r]? = some o ∧ o.isCells = false := fun r e => by cases e; exact ⟨hD, _, hK, rfl⟩
    have hfr2 := hX.fr.turn (n := w8.heap.size) (by omega) hB hg hr
    have hb4 := blk_turn hX.b4 hg hr
    have hdm3 := hX.dm.turn (n := w8.heap.size) (by omega) hg hr
    have hbad := hX.bad
    rw [hys] at hbad hdm3 hb4
    have hst := layP_stop hkm hbad
    refine ⟨by simp, .inl ⟨_, _, rfl, run_takeDeferred hK, ?_⟩⟩
    refine ⟨_, results_cell1 rfl rfl naErr (hb4.cell 0), ?_, ?_, hfr2⟩
    · unfold layE
      rw [HMC.out, hst]
      rfl
    · unfold layD
      rw [HMC.out, hst]
      exact hdm3.dk
end Go.Proofs.Ytlpdiamgpnmeoaa
