/- octet: the writer's other methods; a clone. -/
import Derived.Test.YtnlgogladafcdaaOct
namespace Go.Proofs.Ytnlgogladafcdaa
open Go.RowKit
set_option linter.unusedVariables false

/-- An address leads to no block of the writer's. -/
def Sep (A1 : Option Addr) (g : Nat) (v : Value) : Prop := ∀ bb off, A1 = some ⟨bb, off, none⟩ → bb ≠ g ∧ v.ownBlock ≠ some bb
theorem sep_none (g : Nat) (v : Value) : Sep none g v := fun _ _ h => by cases h
theorem sep_low {w : World} {B g : Nat} {l : List UInt8} {A : Option Addr} {c : Nat} (h : IsW w B g l A c) {B' : Nat} (hB : B' ≤ B) {A1 : Option Addr} (hA : ∀ bb off, A1 = some ⟨bb, off, none⟩ → bb < B') : Sep A1 g (.slice A l.length c) := fun bb off e => by
  have h1 := hA bb off e
  have h2 := h.gB
  refine ⟨by omega, fun e2 => ?_⟩
  have := (h.own.lt bb e2).1
  omega
theorem sep_rd {w w0 : World} {B g : Nat} {l : List UInt8} {A : Option Addr} {c : Nat} (h : IsW w B g l A c) {B' : Nat} (hB : B' ≤ B) {A1 : Option Addr} {b : List UInt8} (hr : Rd w0 B' A1 (b.map cb)) : b = [] ∨ Sep A1 g (.slice A l.length c) := by
  rcases hr with h0 | ⟨bb, off, rfl, hlt, _⟩
  · exact .inl (by simpa using h0)
  · refine .inr (sep_low h hB fun b2 o2 e => ?_)
    injection e with e
    injection e with e1 _
    omega
theorem WGo.rdE {w w1 : World} {B g : Nat} {l l1 : List UInt8} {A A1 : Option Addr} {c c1 : Nat} (h : WGo w w1 B g l l1 A c A1 c1) {A2 : Option Addr} {b : List UInt8} {B' : Nat} (hr : Rd w B' A2 (b.map cb)) (hs : b = [] ∨ Sep A2 g (.slice A l.length c)) : Rd w1 B' A2 (b.map cb) := by
  rcases hs with rfl | hs
  · exact .inl rfl
  · rcases hr with hr | ⟨b, off, rfl, h2, h3⟩
    · exact .inl hr
    · exact h.rd (.inr ⟨b, off, rfl, h2, h3⟩) (hs b off rfl).1 (hs b off rfl).2
theorem WGo.rdS {w w1 : World} {B g : Nat} {l l1 : List UInt8} {A A1 : Option Addr} {c c1 : Nat} (h : WGo w w1 B g l l1 A c A1 c1) {A2 : Option Addr} {xs : List Value} {B' : Nat} (hr : Rd w B' A2 xs) (hs : Sep A2 g (.slice A l.length c)) : Rd w1 B' A2 xs := by
  rcases hr with hr | ⟨b, off, rfl, h2, h3⟩
  · exact .inl hr
  · exact h.rd (.inr ⟨b, off, rfl, h2, h3⟩) (hs b off rfl).1 (hs b off rfl).2
set_option maxRecDepth 100000 in
set_option maxHeartbeats 1000000 in
theorem WBytes_any (w : World) {B g : Nat} {l : List UInt8} {A : Option Addr} {c : Nat} (h : IsW w B g l A c) (hB : B ≤ w.heap.size) {A1 : Option Addr} {c1 B' : Nat} {b : List UInt8} (hr : Rd w B' A1 (b.map cb)) (hbc : b.length ≤ c1) (hc1 : c1 ≤ maxLen)
    (hsep : b = [] ∨ Sep A1 g (.slice A l.length c)) (hlen : l.length + b.length ≤ 800000000) :
    Calls Try.prog 14 #[.pointer (some ⟨g, 0, none⟩), .slice A1 b.length c1] w fun e w' => e = .returned (.tuple #[]) ∧ ∃ A' c', WGo w w' B g l (l ++ bytesW b) A c A' c' := by
  unfold maxLen at hc1
  have H := hid h
  have HR := hid hr
  have HS := hid hsep
  clear h hr hsep
  obtain ⟨m, hm⟩ : ∃ m, m = min b.length 65535 := ⟨_, rfl⟩
  have hql : (b.take 65535).length = m := by rw [List.length_take, hm, Nat.min_comm]
  have hbw : bytesW b = numL m 2 ++ b.take 65535 := by rw [hm]; rfl
  have hqt : b.take 65535 = b.take m := by
    rw [hm]
    by_cases h : b.length ≤ 65535
    · rw [List.take_of_length_le h, Nat.min_eq_left h, List.take_length]
    · rw [Nat.min_eq_right (by omega)]
  have hm2 : m ≤ 65535 := by omega
  have hmb : m ≤ b.length := by omega
  have hwm : IntKind.u64.wrap (m : Int) = (m : Int) := by
    simp [IntKind.wrap, IntKind.bits, IntKind.signed]
    omega
  have hnw : numW m 2 = numL m 2 := by unfold numW; rw [if_pos (by decide)]; rfl
  obtain ⟨q, hq⟩ : ∃ q, q = b.take 65535 := ⟨_, rfl⟩
  rw [← hq] at hql hbw hqt
  have HBW := hid hbw
  have HQL := hid hql
  have HQT := hid hqt
  clear hq hql hbw hqt
  have hmc : m ≤ c1 := by omega
  by_cases hle : b.length ≤ 65535
  · have hmb2 : b.length = m := by omega
    have hn : ¬ (65535 : Int) < (m : Int) := by omega
    rw [hmb2]
    clear hm hle hmb
    go_enter Try.func14, Try.ntmps14
    go_wp2_with fail
    refine (WNum_any w H.out hB m 2 (by omega)).mono ?_
    rintro e w1 ⟨rfl, A2, c2, hG⟩
    rw [hnw] at hG
    have hr2 : Rd w1 B' A1 (q.map cb) := by
      rw [HQT.out, List.map_take]
      exact (hG.rdE HR.out HS.out).take m
    have hB1 : B ≤ w1.heap.size := Nat.le_trans hB hG.below.size
    have hl1 : (l ++ numL m 2).length = l.length + 2 := by rw [List.length_append, numL_length]
    go_wp2_with fail
    rw [← HQL.out]
    refine (WRaw_any w1 hG.isW hr2 hB1 (by rw [hl1, HQL.out]; omega)).mono ?_
    rintro e w2 ⟨rfl, A3, c3, hG2⟩
    have hfin := hG.trans hG2
    rw [List.append_assoc, ← HBW.out] at hfin
    clear hG hG2 hr2 hl1
    go_wp2
    go_end0
    exact ⟨rfl, A3, c3, hfin⟩
  · have hmb2 : m = 65535 := by omega
    have hn : (65535 : Int) < (b.length : Int) := by omega
    subst hmb2
    clear hm hle
    go_enter Try.func14, Try.ntmps14
    go_wp2_with fail
    refine (WNum_any w H.out hB 65535 2 (by omega)).mono ?_
    rintro e w1 ⟨rfl, A2, c2, hG⟩
    rw [hnw] at hG
    have hr2 : Rd w1 B' A1 (q.map cb) := by
      rw [HQT.out, List.map_take]
      exact (hG.rdE HR.out HS.out).take 65535
    have hB1 : B ≤ w1.heap.size := Nat.le_trans hB hG.below.size
    have hl1 : (l ++ numL 65535 2).length = l.length + 2 := by rw [List.length_append, numL_length]
    go_wp2_with fail
    rw [← HQL.out]
    refine (WRaw_any w1 hG.isW hr2 hB1 (by rw [hl1, HQL.out]; omega)).mono ?_
    rintro e w2 ⟨rfl, A3, c3, hG2⟩
    have hfin := hG.trans hG2
    rw [List.append_assoc, ← HBW.out] at hfin
    clear hG hG2 hr2 hl1
    go_wp2
    go_end0
    exact ⟨rfl, A3, c3, hfin⟩
theorem eql_nil : ∀ (w : World) (a : Option Addr) (n c n' c' : Nat), (binOp .eql 23 (.slice a n c) (.slice none n' c')).run Try.prog w = .ok (.bool a.isNone) w := fun w a n c n' c' => Lib.run_eql_slice_nil w _ _ a n c n' c' Try.underlying23
set_option maxHeartbeats 400000 in
theorem Clone_any (w : World) {A : Option Addr} {c B' : Nat} {l : List UInt8} (hr : Rd w B' A (l.map cb)) (hl : l.length ≤ 1000000000) :
    Calls Try.prog 32 #[.slice A l.length c] w fun e w' => ∃ v, e = .returned v ∧ w'.ownsRow w.heap.size 5 1 v l.length (l.map cb) ∧ Below w.heap.size w w' := by
  have hq := eql_nil
  cases A with
  | none =>
    have h0 : l = [] := by
      rcases hr with h | ⟨b, off, h, _⟩
      · simpa using h
      · cases h
    subst h0
    go_enter Try.func32, Try.ntmps32
    go_wp2
    go_ret
    exact ⟨_, rfl, World.ownsRow_nil _ _ _ _, Below.refl _ _⟩
  | some a =>
    have hown := own_empty w 5 1
    have hlm : (l.map cb).length = l.length * 1 := by simp
    have h63 : 0 + l.length ≤ maxLen := by unfold maxLen; omega
    have hby : (0 + l.length) * 1 ≤ 140737488355328 := by omega
    have hwz : w.heap.size ≤ (w.alloc (.cells #[] 5)).heap.size := by simp
    have hr1 : Rd (w.alloc (.cells #[] 5)) B' (some a) (l.map cb) := by
      rcases hr with h | ⟨b, off, h1, h2, h3⟩
      · exact .inl h
      · refine .inr ⟨b, off, h1, h2, fun i v hv => ?_⟩
        have := h3 i v hv
        exact (World.cell?_alloc_lt w _ _ (World.block_lt_of_cell? w _ this)).trans this
    go_enter Try.func32, Try.ntmps32
    go_wp2_with (at_builtin; refine wpList_app rfl _ _ _ rfl (.slice (some ⟨w.heap.size, 0, none⟩) 0 0) rfl _ _ _ rfl elB8 hown hr1 hlm (one_cb l) h63 hby hwz ?_; intro v' w5 hown5 hgr5 hv5)
    have hbf : Below w.heap.size w w5 := own_below (bx_alloc (Below.refl _ _) _) hown hgr5
    go_ret
    exact ⟨v', rfl, by simpa using hown5, hbf⟩
set_option maxHeartbeats 400000 in
theorem Out_any (w : World) {B g : Nat} {l : List UInt8} {A : Option Addr} {c : Nat} (h : IsW w B g l A c) (hl : l.length ≤ 1000000000) :
    Calls Try.prog 17 #[.pointer (some ⟨g, 0, none⟩)] w fun e w' => ∃ v, e = .returned v ∧ w'.ownsRow w.heap.size 5 1 v l.length (l.map cb) ∧ Below w.heap.size w w' := by
  have c0 : w.cell? ⟨g, 0, none⟩ = some (.slice A l.length c) := h.blk.cell 0
  go_enter Try.func17, Try.ntmps17
  go_wp2_with fail
  refine (Clone_any w (own_rd h.own) hl).mono ?_
  rintro e w1 ⟨v, rfl, hown, hb⟩
  go_wp2
  go_ret
  exact ⟨v, rfl, hown, hb⟩
set_option maxHeartbeats 400000 in
theorem Out_nil (w : World) : Calls Try.prog 17 #[.pointer none] w fun e w' => e = .returned (.slice none 0 0) ∧ w = w' := by
  go_enter Try.func17, Try.ntmps17
  go_wp2
  go_ret
  exact ⟨rfl, rfl⟩
set_option maxHeartbeats 400000 in
theorem WHash_any (w : World) {B g : Nat} {l : List UInt8} {A : Option Addr} {c : Nat} (h : IsW w B g l A c) (hB : B ≤ w.heap.size) {x : List UInt8} (hx : x.length = 32) (hlen : l.length ≤ 900000000) :
    Calls Try.prog 16 #[.pointer (some ⟨g, 0, none⟩), .agg (x.map cb).toArray] w fun e w' => e = .returned (.tuple #[]) ∧ ∃ A' c', WGo w w' B g l (l ++ x) A c A' c' := by
  have hbx := Blk.new w 25 (x.map cb).toArray
  have hb0 : Below w.heap.size w (w.alloc (.cells (x.map cb).toArray 25)) := bx_alloc (Below.refl _ _) _
  have hrd := rd_of_row hbx (xs := x.map cb) rfl
  have hW := h.below hb0
  go_enter Try.func16, Try.ntmps16
  go_wp2_with fail
  rw [← hx]
  refine (WRaw_any _ hW hrd (Nat.le_trans hB hb0.size) (by omega)).mono ?_
  rintro e w1 ⟨rfl, A2, c2, hG⟩
  have hfin := (WGo.of_below h hb0 hB).trans hG
  go_wp2
  go_end0
  exact ⟨rfl, A2, c2, hfin⟩
theorem WBytes_nil (w : World) {A1 : Option Addr} {n c1 : Nat} (hn : n ≤ 65535) (hc : n ≤ c1) (hc1 : c1 ≤ maxLen) : Calls Try.prog 14 #[.pointer none, .slice A1 n c1] w fun e w' => e = .returned (.tuple #[]) ∧ w = w' := by
  unfold maxLen at hc1
  have hn2 : ¬ (65535 : Int) < (n : Int) := by omega
  go_enter Try.func14, Try.ntmps14
  go_wp2_with fail
  refine (WNum_nil w _ _).mono ?_
  rintro e w1 ⟨rfl, rfl⟩
  go_wp2_with fail
  refine (WRaw_nil w _).mono ?_
  rintro e w1 ⟨rfl, rfl⟩
  go_wp2
  go_end0
  exact ⟨rfl, rfl⟩
end Go.Proofs.Ytnlgogladafcdaa
