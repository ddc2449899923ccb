
/- octet: the writer's other methods; a clone. -/
import Derived.Test.YtlpdiamgpnmeoaaOct
namespace Go.Proofs.Ytlpdiamgpnmeoaa
open Go.RowKit
set_option linter.unusedVariables false

/-- An address leads to no block of the writer's. -/
def Sep (A1 : Option Addr) (g : Nat) (v : Value) : Prop := ∀ bb off, A1 = some ⟨bb, off, none⟩ → bb ≠ g ∧ v.ownBlock ≠ some bb
theorem sep_none (g : Nat) (v : Value) : Sep none g v := fun _ _ h => by cases h
theorem sep_low {w : World} {B g : Nat} {l : List UInt8} {A : Option Addr} {c : Nat} (h : IsW w B g l A c) {B' : Nat} (hB : B' ≤ B) {A1 : Option Addr} (hA : ∀ bb off, A1 = some ⟨bb, off, none⟩ → bb < B') : Sep A1 g (.slice A l.length c) := fun bb off e => by
  have h1 := hA bb off e
  have h2 := h.gB
  refine ⟨by omega, fun e2 => ?_⟩
  have := (h.own.lt bb e2).1
  omega
theorem sep_rd {w w0 : World} {B g : Nat} {l : List UInt8} {A : Option Addr} {c : Nat} (h : IsW w B g l A c) {B' : Nat} (hB : B' ≤ B) {A1 : Option Addr} {b : List UInt8} (hr : Rd w0 B' A1 (b.map cb)) : b = [] ∨ Sep A1 g (.slice A l.length c) := by
  rcases hr with h0 | ⟨bb, off, rfl, hlt, _⟩
  · exact .inl (by simpa using h0)
  · refine .inr (sep_low h hB fun b2 o2 e => ?_)
    injection e with e
    injection e with e1 _
    omega
theorem WGo.rdE {w w1 : World} {B g : Nat} {l l1 : List UInt8} {A A1 : Option Addr} {c c1 : Nat} (h : WGo w w1 B g l l1 A c A1 c1) {A2 : Option Addr} {b : List UInt8} {B' : Nat} (hr : Rd w B' A2 (b.map cb)) (hs : b = [] ∨ Sep A2 g (.slice A l.length c)) : Rd w1 B' A2 (b.map cb) := by
  rcases hs with rfl | hs
  · exact .inl rfl
  · rcases hr with hr | ⟨b, off, rfl, h2, h3⟩
    · exact .inl hr
    · exact h.rd (.inr ⟨b, off, rfl, h2, h3⟩) (hs b off rfl).1 (hs b off rfl).2
theorem WGo.rdS {w w1 : World} {B g : Nat} {l l1 : List UInt8} {A A1 : Option Addr} {c c1 : Nat} (h : WGo w w1 B g l l1 A c A1 c1) {A2 : Option Addr} {xs : List Value} {B' : Nat} (hr : Rd w B' A2 xs) (hs : Sep A2 g (.slice A l.length c)) : Rd w1 B' A2 xs := by
  rcases hr with hr | ⟨b, off, rfl, h2, h3⟩
  · exact .inl hr
  · exact h.rd (.inr ⟨b, off, rfl, h2, h3⟩) (hs b off rfl).1 (hs b off rfl).2
theorem eql_nil : ∀ (w : World) (a : Option Addr) (n c n' c' : Nat), (binOp .eql 23 (.slice a n c) (.slice none n' c')).run Try.prog w = .ok (.bool a.isNone) w := fun w a n c n' c' => Lib.run_eql_slice_nil w _ _ a n c n' c' Try.underlying23
set_option maxHeartbeats 400000 in
theorem Clone_any (w : World) {A : Option Addr} {c B' : Nat} {l : List UInt8} (hr : Rd w B' A (l.map cb)) (hl : l.length ≤ 1000000000) :
    Calls Try.prog 34 #[.slice A l.length c] w fun e w' => ∃ v, e = .returned v ∧ w'.ownsRow w.heap.size 5 1 v l.length (l.map cb) ∧ Below w.heap.size w w' := by
  have hq := eql_nil
  cases A with
  | none =>
    have h0 : l = [] := by
      rcases hr with h | ⟨b, off, h, _⟩
      · simpa using h
      · cases h
    subst h0
    go_enter Try.func34, Try.ntmps34
    go_wp2
    go_ret
    exact ⟨_, rfl, World.ownsRow_nil _ _ _ _, Below.refl _ _⟩
  | some a =>
    have hown := own_empty w 5 1
    have hlm : (l.map cb).length = l.length * 1 := by simp
    have h63 : 0 + l.length ≤ maxLen := by unfold maxLen; omega
    have hby : (0 + l.length) * 1 ≤ 140737488355328 := by omega
    have hwz : w.heap.size ≤ (w.alloc (.cells #[] 5)).heap.size := by simp
    have hr1 : Rd (w.alloc (.cells #[] 5)) B' (some a) (l.map cb) := by
      rcases hr with h | ⟨b, off, h1, h2, h3⟩
      · exact .inl h
      · refine .inr ⟨b, off, h1, h2, fun i v hv => ?_⟩
        have := h3 i v hv
        exact (World.cell?_alloc_lt w _ _ (World.block_lt_of_cell? w _ this)).trans this
    go_enter Try.func34, Try.ntmps34
    go_wp2_with (at_builtin; refine wpList_app rfl _ _ _ rfl (.slice (some ⟨w.heap.size, 0, none⟩) 0 0) rfl _ _ _ rfl elB8 hown hr1 hlm (one_cb l) h63 hby hwz ?_; intro v' w5 hown5 hgr5 hv5)
    have hbf : Below w.heap.size w w5 := own_below (bx_alloc (Below.refl _ _) _) hown hgr5
    go_ret
    exact ⟨v', rfl, by simpa using hown5, hbf⟩
set_option maxHeartbeats 400000 in
theorem Out_any (w : World) {B g : Nat} {l : List UInt8} {A : Option Addr} {c : Nat} (h : IsW w B g l A c) (hl : l.length ≤ 1000000000) :
    Calls Try.prog 48 #[.pointer (some ⟨g, 0, none⟩)] w fun e w' => ∃ v, e = .returned v ∧ w'.ownsRow w.heap.size 5 1 v l.length (l.map cb) ∧ Below w.heap.size w w' := by
  have c0 : w.cell? ⟨g, 0, none⟩ = some (.slice A l.length c) := h.blk.cell 0
  go_enter Try.func48, Try.ntmps48
  go_wp2_with fail
  refine (Clone_any w (own_rd h.own) hl).mono ?_
  rintro e w1 ⟨v, rfl, hown, hb⟩
  go_wp2
  go_ret
  exact ⟨v, rfl, hown, hb⟩
set_option maxHeartbeats 400000 in
theorem Out_nil (w : World) : Calls Try.prog 48 #[.pointer none] w fun e w' => e = .returned (.slice none 0 0) ∧ w = w' := by
  go_enter Try.func48, Try.ntmps48
  go_wp2
  go_ret
  exact ⟨rfl, rfl⟩
end Go.Proofs.Ytlpdiamgpnmeoaa
