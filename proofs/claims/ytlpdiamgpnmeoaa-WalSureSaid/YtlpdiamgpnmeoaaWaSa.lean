
/- Records: what WalSure needs: a cut in a walk, append beside what shares its row, what its rounds keep. -/
import Derived.Test.YtlpdiamgpnmeoaaWaStays
namespace Go.Proofs.Ytlpdiamgpnmeoaa
open Go.RowKit
set_option linter.unusedVariables false
/-- A walk is cut between the two parts of a sequence: of the slots that the first part writes the relation alone tells. -/
theorem wp_cut {P : Program} {x y : Code} {Q : Exit → Act → World → Prop} {l0 : List Value} {d0 : List Deferred} {w0 : World} (W : List Bool) (rel : (Nat → Value) → World → Prop)
    (h1 : ∀ K : Act → World → Prop, Hid (∀ f w, rel f w → K { tmps := (mix W l0 f 0).toArray, defers := d0 } w) → x.wp P (Exit.then K Q) { tmps := l0.toArray, defers := d0 } w0)
    (h2 : ∀ f w, rel f w → y.wp P Q { tmps := (mix W l0 f 0).toArray, defers := d0 } w) : (Code.seq x y).wp P Q { tmps := l0.toArray, defers := d0 } w0 :=
  wp_seq_k fun K hK => h1 K (hid fun f w h => hK _ _ (h2 f w h))
/-- At the cut, from within. -/
theorem cut_leaf {W : List Bool} {l0 l : List Value} {d0 : List Deferred} {K : Act → World → Prop} {rel : (Nat → Value) → World → Prop} {w : World} (hk : Hid (∀ f w, rel f w → K { tmps := (mix W l0 f 0).toArray, defers := d0 } w))
    (hl : mix W l0 (fun i => l.getD i undef) 0 = l) (hr : rel (fun i => l.getD i undef) w) : K { tmps := l.toArray, defers := d0 } w := by
  have h := Hid.out hk _ _ hr
  rw [hl] at h
  exact h
theorem holdSeq (k : Nat) (ops : Array Oper) (b : Bool) (c d : Code) : Code.seq (Code.seq (Code.region k ops b) c) d = Hold (Code.seq (Code.seq (Code.region k ops b) c) d) := rfl
section
variable {P : Program} {w : World} {base e size n : Nat} {v : Value} {xs : List Value}
/-- append beside rows that share its block: what they read as stays. -/
theorem run_app2 {t ty bytes m c B : Nat} {zs : Array Value} {A : Option Addr} {news : List Value} (E : ElT P t e size bytes zs) (hown : w.ownsRow base e size v n xs) (hr : Rd w B A news) (hl : news.length = m * size) (h1 : ∀ u ∈ news, u.oneCell' = true)
    (h63 : n + m ≤ maxLen) (hbytes : (n + m) * bytes ≤ 140737488355328) (hbase : base ≤ w.heap.size) (hm0 : 0 < m) :
    ∃ v' w', (Builtin.append_ #[t, t] ty #[v, .slice A m c]).run P w = .ok v' w' ∧ w'.ownsRow base e size v' (n + m) (xs ++ news) ∧ w.grownBy w' v.ownBlock ∧
      ∀ (b2 n2 : Nat) (v2 : Value) (xs2 : List Value), n2 ≤ n → w.ownsRow b2 e size v2 n2 xs2 → w'.ownsRow b2 e size v2 n2 xs2 := by
  obtain ⟨v', w', hrun, ho, hg, hat⟩ := run_app (P := P) (ty := ty) (c := c) E hown hr hl h1 h63 hbytes hbase
  refine ⟨v', w', hrun, ho, hg, fun b2 n2 v2 xs2 hn2 h2 => ?_⟩
  rcases h2.2 with h0 | ⟨g2, cap2, cur2, rfl, hb2, hh2, hn2c, hm2, hs2, ht2⟩
  · exact ⟨h2.1, .inl h0⟩
  by_cases hsame : (Value.slice (some ⟨g2, 0, none⟩) n2 cap2).ownBlock = v.ownBlock
  case neg => exact h2.kept hg (.inr hsame)
  rcases hown.2 with ⟨rfl, rfl⟩ | ⟨g, cap, cur, rfl, hb, hh, hnc, hcm, hcs, ht⟩
  · simp [Value.ownBlock] at hsame
  obtain rfl : g2 = g := by simpa [Value.ownBlock] using hsame
  obtain ⟨i, z, hi, hz, hs, hby, hzz⟩ := E.info
  have hpos := E.pos
  obtain ⟨rfl, _, _⟩ : cur2 = cur ∧ True ∧ True := by
    rw [hh] at hh2
    injection hh2 with hh2
    injection hh2 with h1
    exact ⟨h1.symm, trivial, trivial⟩
  cases A with
  | none =>
    rcases hr with hr | ⟨b, off, hr, _⟩
    · rw [hr] at hl
      have h0 : m * size = 0 := by simpa using hl.symm
      rcases Nat.mul_eq_zero.1 h0 with h | h <;> omega
    · cases hr
  | some a =>
    have hcells : ∀ j u, news[j]? = some u → w.cell? (a.add j) = some u := by
      intro j u hu
      rcases hr with hr | ⟨b, off, hr, _, hc⟩
      · subst hr; simp at hu
      · injection hr with hr
        subst hr
        rw [add_off]
        exact hc j u hu
    have hzs : z.cells.size = size := by rw [hzz]; exact E.zsize
    have holds : ∀ j u, xs[j]? = some u → w.cell? ((⟨g2, 0, none⟩ : Addr).add j) = some u := hown.cells (g := g2) rfl
    have hlen := hown.1
    have h64 : n + m ≤ 9223372036854775807 := h63
    subst hs
    subst hby
    by_cases hroom : n + m ≤ cap
    · have hfit : n * i.size + news.length ≤ cur2.size := by rw [hl, hcs, ← Nat.add_mul]; exact Nat.mul_le_mul_right _ hroom
      have hr2 := run_append_room (P := P) w t ty e i E.under hi g2 n cap cur2 hh a m c news hl hcells h1 hroom hfit
      rw [hrun] at hr2
      injection hr2 with q1 q2
      subst q2
      refine ⟨h2.1, .inr ⟨g2, cap2, _, rfl, hb2, setRow_heap w g2 cur2 _ e _ hh, hn2c, hm2, ?_, ?_⟩⟩
      · simp only [List.size_toArray, List.length_append, List.length_take, List.length_drop, Array.length_toList]
        omega
      · have hle : n2 * i.size ≤ n * i.size := Nat.mul_le_mul_right _ hn2
        have hlt : (cur2.toList.take (n * i.size)).length = n * i.size := by rw [ht, hlen]
        show List.take (n2 * i.size) (cur2.toList.take (n * i.size) ++ news ++ _) = xs2
        rw [List.append_assoc, List.take_append_of_le_length (by omega), List.take_take, Nat.min_eq_left hle, ht2]
    · have hr2 := run_append_grow (P := P) w t ty e i z E.under hi hz ⟨g2, 0, none⟩ n cap xs hlen holds a m c news hl hcells (by omega) (by omega) (growslice_fits (by omega) hbytes)
      rw [hrun] at hr2
      injection hr2 with q1 q2
      subst q2
      refine h2.kept (row := none) ⟨rfl, rfl, rfl, by simp, fun k hk _ => Go.heap_alloc_old w.drew _ hk⟩ (.inr (by simp [Value.ownBlock]))
theorem wpList_app2 {ops : Array Oper} {rest : List Oper} {o : Oper} {a : Act} {Q : Exit → Act → World → Prop} (hgd : o.guard = none) (s x : Operand) (t : TypeId) (ho : o.op = .call { callee := .builtin .append, args := #[s, x], argTypes := #[t, t] })
    (v : Value) (hs : a.eval s = v) (A : Option Addr) (m c : Nat) (hx : a.eval x = .slice A m c) {bytes B : Nat} {zs : Array Value} {news : List Value} (E : ElT P t e size bytes zs) (hown : w.ownsRow base e size v n xs) (hr : Rd w B A news) (hl : news.length = m * size) (h1 : ∀ u ∈ news, u.oneCell' = true)
    (h63 : n + m ≤ maxLen) (hbytes : (n + m) * bytes ≤ 140737488355328) (hbase : base ≤ w.heap.size) (hm0 : 0 < m)
    (h : ∀ v' w', w'.ownsRow base e size v' (n + m) (xs ++ news) → w.grownBy w' v.ownBlock → (∀ (b2 n2 : Nat) (v2 : Value) (xs2 : List Value), n2 ≤ n → w.ownsRow b2 e size v2 n2 xs2 → w'.ownsRow b2 e size v2 n2 xs2) → wpList P ops Q rest (a.put o.dst v') w') : wpList P ops Q (o :: rest) a w := by
  obtain ⟨v', w', hrun, h2, h3, h4⟩ := run_app2 (P := P) (w := w) (ty := o.type) (c := c) E hown hr hl h1 h63 hbytes hbase hm0
  refine wpList_plain hgd fun K hK => ?_
  unfold Oper.wp execOp
  simp only [ho, resolve, invoke, builtin, Sem.run_bind, Sem.run_pure, Result.andThen_ok, List.map_toArray, List.map_cons, List.map_nil, hs, hx, hrun]
  exact hK _ _ (h v' w' h2 h3 h4)
end
theorem and7 (x : Int) : ∃ n : Nat, n ≤ 7 ∧ bits BinOp.and IntKind.i64 x 7 = (n : Int) := by
  refine ⟨(BitVec.ofInt 64 x &&& BitVec.ofInt 64 7).toNat, ?_, ?_⟩
  · rw [BitVec.toNat_and]
    exact Nat.le_trans Nat.and_le_right (by decide)
  · have h : (BitVec.ofInt 64 x &&& BitVec.ofInt 64 7).toNat ≤ 7 := by
      rw [BitVec.toNat_and]
      exact Nat.le_trans Nat.and_le_right (by decide)
    show IntKind.i64.wrap (((BitVec.ofInt 64 x &&& BitVec.ofInt 64 7).toNat : Nat) : Int) = _
    exact i64_wrap (by omega) (by omega)
abbrev tAct : Nat := 51
/-- Something that is done. -/
structure ActD where
  kind : Int
  num : Int
  rows : List (List UInt8)
  bytes : List UInt8
  Ar : Option Addr
  cr : Nat
  Ab : Option Addr
  cb : Nat
def ActD.cells (a : ActD) : List Value := [.int .i64 a.kind, .int .i64 a.num, .slice a.Ar a.rows.length a.cr, .slice a.Ab a.bytes.length a.cb]
/-- What it points to reads so. -/
structure ActOk (w : World) (a : ActD) : Prop where
  r : RdBB w w.heap.size a.Ar a.rows
  rc : a.rows.length ≤ a.cr
  rm : a.cr ≤ maxLen
  b : Rd w w.heap.size a.Ab (a.bytes.map cb)
  bc : a.bytes.length ≤ a.cb
  bm : a.cb ≤ maxLen
theorem ActOk.below {w w' : World} {a : ActD} (h : ActOk w a) (hb : Below w.heap.size w w') : ActOk w' a :=
  ⟨(h.r.below hb).more hb.size, h.rc, h.rm, (h.b.below hb).more hb.size, h.bc, h.bm⟩
theorem aggAct (a : ActD) : AggT Try.prog tAct a.cells.length := aggT_of Try.underlying51 rfl (by kernel_rfl)
theorem aggActS (a : ActD) : AggT Try.prog tAct a.cells.toArray.size := aggAct a
def act0 : ActD := ⟨0, 0, [], [], none, 0, none, 0⟩
theorem zeroAct : ZeroT Try.prog tAct (.agg act0.cells.toArray) := zeroT_of (by kernel_rfl)
theorem oneAct (a : ActD) : ∀ v ∈ a.cells.toArray.toList, v.oneCell' = true := by
  intro v hv
  have hv : v ∈ a.cells := by simpa using hv
  simp only [ActD.cells, List.mem_cons, List.not_mem_nil, or_false] at hv
  rcases hv with rfl | rfl | rfl | rfl <;> rfl
theorem szAct (a : ActD) : 0 + a.cells.toArray.size ≤ (Value.agg act0.cells.toArray).cells.size := Nat.le_refl 4
theorem splAct (a : ActD) : spl (Value.agg act0.cells.toArray).cells 0 a.cells.toArray.toList = a.cells.toArray := spl_whole rfl
theorem acts_get {acts : List ActD} {i : Nat} (h : i < acts.length) : ∀ j v, acts[i].cells[j]? = some v → (acts.map ActD.cells).flatten[i * 4 + j]? = some v := by
  induction acts generalizing i with
  | nil => exact absurd h (Nat.not_lt_zero _)
  | cons a as_ ih =>
    intro j v hv
    cases i with
    | zero =>
      have hj : j < a.cells.length := (List.getElem?_eq_some_iff.1 hv).1
      rw [List.map_cons, List.flatten_cons, List.getElem?_append_left (by omega)]
      simpa using hv
    | succ i =>
      rw [List.map_cons, List.flatten_cons, List.getElem?_append_right (by show 4 ≤ _; omega)]
      have := ih (i := i) (by simpa using h) j v (by simpa using hv)
      rw [← this]
      congr 1
      show (i + 1) * 4 + j - 4 = _
      omega
/-- What the rounds of WalSure keep. -/
structure SureI (w0 : World) (g gl i : Nat) (D : DS) (L : LS) (rs : List (List UInt8)) (v10 v11 : Value) (wr : World) : Prop where
  has : Has wr w0.heap.size gl g D L rs
  n : D.n = 16
  size : L.size = 7
  turn : L.turn ≤ i
  loose : D.loose.length ≤ i * 50
  below : Below w0.heap.size w0 wr
  s : wr.ownsRow w0.heap.size tStr 1 v10 rs.length (rs.map sval)
  a : wr.ownsRow w0.heap.size tStr 1 v11 L.rows.length (L.rows.map sval)
/-- A log whose disk is to crash. -/
structure DownI (w0 : World) (g i : Nat) (D : DS) (rs M : List (List UInt8)) (v10 v15 : Value) (wr : World) : Prop where
  disk : IsDisk wr w0.heap.size g D
  n : D.n = 16
  below : Below w0.heap.size w0 wr
  s : wr.ownsRow w0.heap.size tStr 1 v10 rs.length (rs.map sval)
  m : wr.ownsRow w0.heap.size tStr 1 v15 M.length (M.map sval)
  dur : ∀ front, ∃ T a SS, T ≤ i ∧ (SS = rs ∨ SS = M) ∧ Dur (crashD D front).good 7 T a SS
theorem SureI.below' {w0 wr w' : World} {g gl i : Nat} {D : DS} {L : LS} {rs : List (List UInt8)} {v10 v11 : Value} (h : SureI w0 g gl i D L rs v10 v11 wr) (hb : Below wr.heap.size wr w') : SureI w0 g gl i D L rs v10 v11 w' :=
  ⟨h.has.below hb h.below.size, h.n, h.size, h.turn, h.loose, bx_trans h.below hb, own_keepW h.s hb, own_keepW h.a hb⟩
theorem DownI.below' {w0 wr w' : World} {g i : Nat} {D : DS} {rs M : List (List UInt8)} {v10 v15 : Value} (h : DownI w0 g i D rs M v10 v15 wr) (hb : Below wr.heap.size wr w') : DownI w0 g i D rs M v10 v15 w' :=
  ⟨h.disk.below hb, h.n, bx_trans h.below hb, own_keepW h.s hb, own_keepW h.m hb, h.dur⟩
theorem SureI.le {w0 wr : World} {g gl i : Nat} {D : DS} {L : LS} {rs : List (List UInt8)} {v10 v11 : Value} (h : SureI w0 g gl i D L rs v10 v11 wr) : rs.length ≤ L.rows.length ∧ L.rows.length ≤ 224 ∧ L.sure = rs.length ∧ rs.length ≤ 224 := by
  obtain ⟨t, ht⟩ := h.has.inv.pre
  have h1 : L.rows.length = rs.length + t.length := by rw [ht, List.length_append]
  have h2 := (framL_len L.rows 16384 h.has.inv.short).2
  have h3 := h.has.inv.fit
  rw [h.has.inv.b, h.size] at h3
  exact ⟨by omega, by omega, h.has.inv.sure, by omega⟩
theorem SureI.fail {w0 wr w' : World} {g gl i : Nat} {D : DS} {L : LS} {rs : List (List UInt8)} {v10 v11 : Value} (h : SureI w0 g gl i D L rs v10 v11 wr) {x : Int} (hd : IsDisk w' w0.heap.size g (failD D x)) (hf : DFr w0.heap.size wr w') : SureI w0 g gl i (failD D x) L rs v10 v11 w' := by
  obtain ⟨⟨⟨vb, vr, vs, hl⟩, hi⟩, h1, h2, h3, h4, h5, h6, h7⟩ := h
  exact ⟨⟨⟨vb, vr, vs, hl.dfr hd hf rfl⟩, ⟨hi.size, hi.dur, hi.harm, hi.read, hi.b, hi.pre, hi.sure, hi.short, hi.fit, hi.e, hi.alive, hi.n4⟩⟩, h1, h2, h3, h4, h5.trans hf.below, own_dfr h6 hf (by decide) (by decide), own_dfr h7 hf (by decide) (by decide)⟩
theorem own_str {w : World} {B n : Nat} {v : Value} {ss : List (List UInt8)} (h : w.ownsRow B tStr 1 v n (ss.map sval)) (hn : n = ss.length) : StrV w v ss := by
  obtain ⟨A, c, h1, _, _, h2⟩ := own_form h
  exact ⟨A, c, by rw [h1, hn], h2⟩
/-- Behind an append onto a row of strings a log is as it was. -/
theorem Has.grown {w w' : World} {B gl g n : Nat} {D : DS} {L : LS} {rs : List (List UInt8)} {v : Value} {xs : List Value} (h : Has w B gl g D L rs) (ho : w.ownsRow B tStr 1 v n xs) (hg : w.grownBy w' v.ownBlock) (hx : XFr [tStr] B w w') : Has w' B gl g D L rs := by
  obtain ⟨⟨vb, vr, vs, hq⟩, hi⟩ := h
  exact ⟨⟨vb, vr, vs, hq.disk.grownRow ho hg (by decide) (by decide), blk_xfr hq.blk hx (by decide), hq.by_.xfr hx (by decide), hq.rows.xfr hx (by decide) (by decide), hq.gB, hq.size, hq.turn, hq.area, hq.len, hq.sure, hq.many, hq.short⟩, hi⟩
/-- Behind the switch. -/
def SwR (w0 : World) (g gl i gA : Nat) (a : ActD) (k7 : Int) (v10 v11 v15 v16 : Value) (wr : World) : Prop :=
  Blk wr gA tAct a.cells.toArray ∧ ∃ f : Int, v16 = .int .i64 f ∧
    ((f ≠ 30 ∧ k7 ≠ 7 ∧ ∃ D L rs, SureI w0 g gl i D L rs v10 v11 wr) ∨ ((f = 30 ∨ k7 = 7) ∧ ∃ D rs M, DownI w0 g i D rs M v10 v15 wr))
theorem SureI.down {w0 wr : World} {g gl i : Nat} {D : DS} {L : LS} {rs : List (List UInt8)} {v10 v11 : Value} (h : SureI w0 g gl i D L rs v10 v11 wr) : DownI w0 g i D rs rs v10 v10 wr :=
  ⟨h.has.disk, h.n, h.below, h.s, h.s, fun front => ⟨L.turn, L.area, rs, h.turn, .inl rfl, by have := h.has.inv.crash front; rwa [h.size] at this⟩⟩
end Go.Proofs.Ytlpdiamgpnmeoaa
