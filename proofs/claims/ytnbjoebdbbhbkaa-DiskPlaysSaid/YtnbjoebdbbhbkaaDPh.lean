
/- DiskPlays: what is done, and what its rounds keep. -/
import Derived.Test.YtnbjoebdbbhbkaaDPg
namespace Go.Proofs.Ytnbjoebdbbhbkaa
open Go.RowKit
set_option linter.unusedVariables false
theorem and15 (x : Int) : ∃ n : Nat, n ≤ 15 ∧ bits BinOp.and IntKind.i64 x 15 = (n : Int) := by
  refine ⟨(BitVec.ofInt 64 x &&& BitVec.ofInt 64 15).toNat, ?_, ?_⟩
  · rw [BitVec.toNat_and]
    exact Nat.le_trans Nat.and_le_right (by decide)
  · have h : (BitVec.ofInt 64 x &&& BitVec.ofInt 64 15).toNat ≤ 15 := by
      rw [BitVec.toNat_and]
      exact Nat.le_trans Nat.and_le_right (by decide)
    show IntKind.i64.wrap (((BitVec.ofInt 64 x &&& BitVec.ofInt 64 15).toNat : Nat) : Int) = _
    exact i64_wrap (by omega) (by omega)
abbrev tAct : Nat := 49
/-- Something that is done. -/
structure ActD where
  kind : Int
  i : Int
  n : Int
  bytes : List UInt8
  Ab : Option Addr
  cb : Nat
def ActD.cells (a : ActD) : List Value := [.int .i64 a.kind, .int .i64 a.i, .int .i64 a.n, .slice a.Ab a.bytes.length a.cb]
/-- What it points to reads so. -/
structure ActOk (w : World) (a : ActD) : Prop where
  b : Rd w w.heap.size a.Ab (a.bytes.map cb)
  bc : a.bytes.length ≤ a.cb
  bm : a.cb ≤ maxLen
  nm : a.n ≤ 9223372036854775807
theorem aggAct (a : ActD) : AggT Try.prog tAct a.cells.length := aggT_of Try.underlying49 rfl (by kernel_rfl)
theorem aggActS (a : ActD) : AggT Try.prog tAct a.cells.toArray.size := aggAct a
def act0 : ActD := ⟨0, 0, 0, [], none, 0⟩
theorem zeroAct : ZeroT Try.prog tAct (.agg act0.cells.toArray) := zeroT_of (by kernel_rfl)
theorem oneAct (a : ActD) : ∀ v ∈ a.cells.toArray.toList, v.oneCell' = true := by
  intro v hv
  have hv : v ∈ a.cells := by simpa using hv
  simp only [ActD.cells, List.mem_cons, List.not_mem_nil, or_false] at hv
  rcases hv with rfl | rfl | rfl | rfl <;> rfl
theorem szAct (a : ActD) : 0 + a.cells.toArray.size ≤ (Value.agg act0.cells.toArray).cells.size := Nat.le_refl 4
theorem splAct (a : ActD) : spl (Value.agg act0.cells.toArray).cells 0 a.cells.toArray.toList = a.cells.toArray := spl_whole rfl
theorem acts_get {acts : List ActD} {i : Nat} (h : i < acts.length) : ∀ j v, acts[i].cells[j]? = some v → (acts.map ActD.cells).flatten[i * 4 + j]? = some v := by
  induction acts generalizing i with
  | nil => exact absurd h (Nat.not_lt_zero _)
  | cons a as_ ih =>
    intro j v hv
    cases i with
    | zero =>
      have hj : j < a.cells.length := (List.getElem?_eq_some_iff.1 hv).1
      rw [List.map_cons, List.flatten_cons, List.getElem?_append_left (by omega), Nat.zero_mul, Nat.zero_add]
      exact hv
    | succ i =>
      have h2 := ih (i := i) (by simpa using h) j v hv
      rw [List.map_cons, List.flatten_cons, List.getElem?_append_right (by show 4 ≤ _; omega), show (i + 1) * 4 + j - a.cells.length = i * 4 + j by show (i + 1) * 4 + j - 4 = _; omega]
      exact h2
theorem RefAt.dfr {w w' : World} {B : Nat} {D : DS} {A A2 : Option Addr} {c c2 : Nat} (h : RefAt w D A c A2 c2) (hd : DFr B w w') : RefAt w' D A c A2 c2 :=
  ⟨(h.g.dfr (h.go.out (by decide) (by decide)) hd).more hd.below.size, h.gc, h.gm, (h.l.dfr (h.lo.out (by decide) (by decide)) hd).more hd.below.size, h.lc, h.lm, h.go.dfr (by decide) (by decide) hd, h.lo.dfr (by decide) (by decide) hd⟩
theorem RefAt.put {w w1 : World} {g : Nat} {D : DS} {A A2 : Option Addr} {c c2 : Nat} {cs cs' : Array Value} (h : RefAt w D A c A2 c2) (hb : Blk w g tRD cs) (hp : Put w w1 g tRD cs') : RefAt w1 D A c A2 c2 :=
  ⟨(h.g.ty_put h.go hb hp (by decide)).more (Nat.le_of_eq hp.size.symm), h.gc, h.gm, (h.l.ty_put h.lo hb hp (by decide)).more (Nat.le_of_eq hp.size.symm), h.lc, h.lm, h.go.put hb hp (by decide), h.lo.put hb hp (by decide)⟩
theorem IsDisk.put {w w1 : World} {B g k : Nat} {D : DS} {cs cs' : Array Value} (h : IsDisk w B g D) (hb : Blk w k tRD cs) (hp : Put w w1 k tRD cs') : IsDisk w1 B g D := by
  obtain ⟨m, A, c, h⟩ := h
  have hkg : g ≠ k := by
    rintro rfl
    have h1 := h.blk
    unfold Blk at h1 hb
    rw [hb] at h1
    injection h1 with h1
    injection h1 with _ h1
    exact absurd h1 (by decide)
  exact ⟨m, A, c, h.ok, hp.other h.blk hkg, h.map.of_same (hp.oth m (fun e => h.map.ne_blk hb e.symm)), own_put h.own hb hp (by decide), h.gB, h.mB⟩
theorem IsDisk.okk {w : World} {B g : Nat} {D : DS} (h : IsDisk w B g D) : D.Ok := by
  obtain ⟨m, A, c, h⟩ := h
  exact h.ok
/-- What each round keeps: k things at most are loose. -/
structure PlayI (w0 : World) (B g g8 k : Nat) (D : DS) (A : Option Addr) (c : Nat) (A2 : Option Addr) (c2 : Nat) (w : World) : Prop where
  disk : IsDisk w B g D
  ref : RefAt w D A c A2 c2
  blk : Blk w g8 tRD (rcs A D.n c A2 D.loose.length c2 D.fails D.dead).toArray
  below : Below w0.heap.size w0 w
  size : B ≤ w.heap.size
  n : D.n ≤ 20
  room : D.loose.length ≤ k
  inn : LooseIn D
theorem PlayI.below' {w0 w w' : World} {B g g8 k : Nat} {D : DS} {A : Option Addr} {c : Nat} {A2 : Option Addr} {c2 : Nat} (h : PlayI w0 B g g8 k D A c A2 c2 w) (hb : Below w.heap.size w w') : PlayI w0 B g g8 k D A c A2 c2 w' :=
  ⟨h.disk.below hb, h.ref.below hb, h.blk.below hb h.blk.lt, bx_trans h.below hb, Nat.le_trans h.size hb.size, h.n, h.room, h.inn⟩
theorem PlayI.more {w0 w : World} {B g g8 k k' : Nat} {D : DS} {A : Option Addr} {c : Nat} {A2 : Option Addr} {c2 : Nat} (h : PlayI w0 B g g8 k D A c A2 c2 w) (hk : k ≤ k') : PlayI w0 B g g8 k' D A c A2 c2 w :=
  ⟨h.disk, h.ref, h.blk, h.below, h.size, h.n, Nat.le_trans h.room hk, h.inn⟩
theorem writeD_play {D : DS} (i : Int) (l : List UInt8) (h : LooseIn D) : LooseIn (writeD D i l) ∧ (writeD D i l).n = D.n ∧ (writeD D i l).loose.length ≤ D.loose.length + 1 := by
  cases hd : D.dead with
  | true => rw [(writeD_dead hd i l).1]; exact ⟨h, rfl, by omega⟩
  | false =>
    cases ht : thereB D i with
    | false => rw [(writeD_out hd ht l).1]; exact ⟨h, rfl, by omega⟩
    | true =>
      by_cases hl : l.length = 256
      · by_cases hc : countE D = 0
        · rw [(writeD_ok hd ht hl hc).1]
          refine ⟨fun x hx => ?_, countD_n D, ?_⟩
          · have hx : x ∈ (countD D).loose ++ [(i, l)] := hx
            show 0 ≤ x.1 ∧ x.1 < ((countD D).n : Int)
            rw [countD_n]
            rw [countD_loose] at hx
            rcases List.mem_append.1 hx with hx | hx
            · exact h x hx
            · simp at hx
              subst hx
              unfold thereB at ht
              simpa using ht
          · show ((countD D).loose ++ [(i, l)]).length ≤ _
            rw [List.length_append, countD_loose]
            exact Nat.le_refl _
        · rw [(writeD_count hd ht hl hc).1]
          refine ⟨fun x hx => ?_, countD_n D, by rw [countD_loose]; omega⟩
          rw [countD_loose] at hx
          rw [countD_n]
          exact h x hx
      · rw [(writeD_len hd ht hl).1]; exact ⟨h, rfl, by omega⟩
theorem syncW_play {D : DS} (h : LooseIn D) : LooseIn (syncW D) ∧ (syncW D).n = D.n ∧ (syncW D).loose.length ≤ D.loose.length := by
  unfold syncW
  split
  · exact ⟨h, rfl, Nat.le_refl _⟩
  · split
    · exact ⟨fun x hx => absurd (show x ∈ ([] : List (Int × List UInt8)) from hx) (by simp), countD_n D, Nat.zero_le _⟩
    · refine ⟨fun x hx => ?_, countD_n D, by rw [countD_loose]; exact Nat.le_refl _⟩
      rw [countD_loose] at hx
      rw [countD_n]
      exact h x hx
theorem failD_play (D : DS) (x : Int) : (failD D x).fails = rfailF x ∧ (failD D x).n = D.n ∧ (failD D x).loose = D.loose ∧ (failD D x).dead = D.dead ∧ (failD D x).good = D.good := by
  refine ⟨?_, rfl, rfl, rfl, rfl⟩
  show (if x < -1 then -1 else x) = if x < 0 then -1 else x
  split <;> split <;> omega
end Go.Proofs.Ytnbjoebdbbhbkaa
