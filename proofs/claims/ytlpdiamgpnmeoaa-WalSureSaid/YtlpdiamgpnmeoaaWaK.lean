
/- Records: lay's closure made. -/
import Derived.Test.YtlpdiamgpnmeoaaWaJ
namespace Go.Proofs.Ytlpdiamgpnmeoaa
open Go.RowKit
set_option linter.unusedVariables false
set_option maxRecDepth 100000 in
set_option maxHeartbeats 1000000 in
theorem lay_any (w : World) {gl area fr : Nat} {vb : Value} (hvb : ∃ A n c, vb = .slice A n c) :
    Calls Try.prog 33 #[.pointer (some ⟨gl, 0, none⟩), .int .i64 (area : Int), vb, .int .i64 (fr : Int)] w fun e w' => ∃ p0 p1 p2 p3, e = .returned (.func (.func 50) #[] #[.pointer (some ⟨p3, 0, none⟩), .pointer (some ⟨p2, 0, none⟩), .pointer (some ⟨p0, 0, none⟩), .pointer (some ⟨p1, 0, none⟩)]) ∧ Blk w' p0 30 #[.pointer (some ⟨gl, 0, none⟩)] ∧ Blk w' p1 3 #[.int .i64 (area : Int)] ∧ Blk w' p2 23 #[vb] ∧ Blk w' p3 3 #[.int .i64 (fr : Int)] ∧ Below w.heap.size w w' := by
  obtain ⟨A, n, c, rfl⟩ := hvb
  go_enter Try.func33, Try.ntmps33
  go_wp2_with fail
  go_ret
  obtain ⟨h0, h1, h2⟩ := three_new w 30 3 23 (.pointer (some ⟨gl, 0, none⟩)) (.int .i64 (area : Int)) (.slice A n c)
  have h3 := Blk.new (((w.alloc (.cells #[.pointer (some ⟨gl, 0, none⟩)] 30)).alloc (.cells #[.int .i64 (area : Int)] 3)).alloc (.cells #[.slice A n c] 23)) 3 #[.int .i64 (fr : Int)]
  rw [World.size_alloc, World.size_alloc, World.size_alloc] at h3
  exact ⟨_, _, _, _, rfl, h0.alloc _, h1.alloc _, h2.alloc _, h3, bx_alloc (bx_alloc (bx_alloc (bx_alloc (Below.refl _ w) _) _) _) _⟩
end Go.Proofs.Ytlpdiamgpnmeoaa
