
/- Chains: Proof. -/
import Derived.Test.YtjkolpioglpigaaDoorChE
import Derived.Laws.EntriesVeiled
namespace Go.Proofs.YtjkolpioglpigaaDoor
open Go.RowKit
set_option linter.unusedVariables false
set_option maxHeartbeats 400000 in
theorem Proof_no (w : World) (A : Option Addr) (m c : Nat) (i : Int) (h : i < 1 ∨ (m : Int) < i) :
    Calls Tryd.prog 12 #[.slice A m c, .int .i64 i] w fun e w' => e = .returned (.tuple #[.slice none 0 0, .int .i64 15]) ∧ w = w' := by
  by_cases h1 : i < 1
  · go_enter Tryd.func12, Tryd.ntmps12
    go_wp2
    go_ret2
    exact ⟨rfl, rfl⟩
  · have h2 : (m : Int) < i := by omega
    go_enter Tryd.func12, Tryd.ntmps12
    go_wp2
    go_ret2
    exact ⟨rfl, rfl⟩
def PfRet (w : World) (hs : List (List UInt8)) (e : Ending) (w' : World) : Prop := ∃ v, e = .returned (.tuple #[v, .int .i64 0]) ∧ w'.ownsRow w.heap.size 37 32 v hs.length (hs.flatten.map cb) ∧ Below w.heap.size w w'
set_option maxRecDepth 10000 in
set_option maxHeartbeats 1000000 in
theorem Proof_any (w : World) (hL : Laid w) (ls : List (List UInt8)) (m : Nat) (A : Option Addr) (c i : Nat) (hm : ls.length = m) (h1 : 1 ≤ i) (h2 : i ≤ m) (hr : RdBB w w.heap.size A ls) (hc : m ≤ c) (hc2 : m ≤ 140737488355328) (hlen : ∀ l ∈ ls, l.length ≤ 800000000) (hml : m ≤ 1000000) :
    Calls Tryd.prog 12 #[.slice A m c, .int .i64 (i : Int)] w (PfRet w (prf ls i true)) := by
  obtain ⟨w1, hw1⟩ : ∃ w1, w1 = (w.alloc (.cells #[.slice none 0 0] tHs)).alloc (.cells #[pfV w.heap.size (w.heap.size + 1)] tPf) := ⟨_, rfl⟩
  have hb1 : Below w.heap.size w w1 := by rw [hw1]; exact bx_alloc (bx_alloc (Below.refl _ _) _) _
  have hcap : Cap w1 w.heap.size w.heap.size (w.heap.size + 1) tPf (pfV w.heap.size (w.heap.size + 1)) (.slice none 0 0) [] := by
    rw [hw1]
    refine ⟨(Blk.new _ _ _).alloc _, ?_, ⟨rfl, .inl ⟨rfl, rfl⟩⟩, Nat.le_refl _, by omega, by simp; omega⟩
    have := Blk.new (w.alloc (.cells #[.slice none 0 0] tHs)) tPf #[pfV w.heap.size (w.heap.size + 1)]
    rwa [World.size_alloc] at this
  have hcall := Proof1_any w hL w.heap.size (w.heap.size + 1) m w1 ls m A c i true (.slice none 0 0) [] hm (Nat.le_refl _) h1 h2 hr hc hc2 hlen (by simpa using hml) hcap hb1
  rw [List.nil_append] at hcall
  have HC := hid hcall
  generalize prf ls i true = pl at *
  clear hcall hcap hb1 hlen hr hL hm
  go_enter Tryd.func12, Tryd.ntmps12
  go_wp2_with fail
  unfold pfV at *
  rw [hw1] at HC
  refine HC.out.mono ?_
  rintro e w2 ⟨rfl, vo, hcap, hb⟩
  obtain ⟨Ao, co, rfl, q1, q2, q3⟩ := own_form hcap.own
  have c0 : w2.cell? ⟨w.heap.size, 0, none⟩ = some (.slice Ao pl.length co) := hcap.bo.cell 0
  have HO := hid hcap.own
  clear hcap q1 q2 q3
  go_wp2
  go_ret2
  exact ⟨_, rfl, HO.out, hb⟩
end Go.Proofs.YtjkolpioglpigaaDoor
