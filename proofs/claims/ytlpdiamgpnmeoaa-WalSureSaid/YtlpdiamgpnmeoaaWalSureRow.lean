/- Behind a crash the log has what was sure, or what was asked: the row over the walk. -/
import Derived.Test.YtlpdiamgpnmeoaaRow
import Derived.Test.YtlpdiamgpnmeoaaRowA
import Derived.Test.YtlpdiamgpnmeoaaWaSure
import Derived.Test.YtlpdiamgpnmeoaaRowA
namespace Go.Proofs.Ytlpdiamgpnmeoaa.walSure_
open Go.ChangeShapes Go.WideShapes Go.ChangeAt Go.RowKit Go.Deep
open Go.ChangeMaps (open_string shut_string)
set_option linter.unusedVariables false
set_option maxRecDepth 100000 in
theorem lifted (os : Os) (started : os.Started) (H : Type) (enc : TypeId × Value → H) :
    ReturnsInHanded {} Try.checked os 7 .any (Rows.walSureSpec.pre6 enc Try.prog Try.f7 Rows.walSureRow.domain false) (Rows.walSureSpec.post enc Try.prog Try.f7 false true false false) := by
  refine returnsInHanded_of_change (C := Try.checked) own_ started (by kernel_rfl) Try.func7
    (ChangeSpec.witness6 (enc := enc) (C := Try.checked) false ⟨#[], #[.slice none 0 0, .slice none 0 0], []⟩ 8 (by kernel_rfl) (by kernel_rfl) (by kernel_rfl) (by kernel_rfl)) ?_
  intro W base args ds gs before hval0 hW hcnd _
  have hval : ∀ (j : Nat) t v, Try.f7.params[j]? = some t → args[j]? = some v → Value.okWide Try.prog W .any base t v := hval0
  have hW' := hW
  obtain ⟨p, q, hA0, hV, rfl, hfz, hnd⟩ := hW
  have hA : DataW.TrodAll enc Try.prog W 0 (fun _ => true) true Try.f7.params.toList args.toList ds p := hA0
  rw [Try.params7] at hA hval
  obtain ⟨v0, vs0, d0, ds0, p0, q0, hargs, rfl, rfl, h0, r0⟩ := trodAll_cons hA
  obtain ⟨v1, vs1, d1, ds1, p1, q1, rfl, rfl, rfl, h1, r1⟩ := trodAll_cons r0
  obtain ⟨rfl, rfl, rfl⟩ := trodAll_nil r1
  obtain rfl : args = #[v0, v1] := by cases args; simp_all
  obtain ⟨rfl, rfl⟩ := trodVars_none hV
  obtain ⟨A0, len0, c0, rfl⟩ := okWide_slice Try.underlying49 (hval 0 49 v0 rfl rfl)
  have k0 := h0
  have lt0 : ∀ x ∈ p0, x.block < W.heap.size := by obtain ⟨m, hm⟩ := k0; exact DataW.trod_lt m _ _ _ hm
  obtain ⟨l0, rfl, hc0, hm0, hx0, hr0⟩ := (by obtain ⟨fuel, hf⟩ := h0; exact open_acts Try.underlying49 hf : ∃ ls : List ActD, len0 = ls.length ∧ ls.length ≤ c0 ∧ c0 ≤ maxLen ∧ (∀ l ∈ ls, ActOk W l) ∧ Rd W W.heap.size A0 (ls.map ActD.cells).flatten)
  obtain ⟨A1, len1, c1, rfl⟩ := okWide_slice Try.underlying22 (hval 1 22 v1 rfl rfl)
  have k1 := h1
  have lt1 : ∀ x ∈ p1, x.block < W.heap.size := by obtain ⟨m, hm⟩ := k1; exact DataW.trod_lt m _ _ _ hm
  obtain ⟨l1, rfl, hc1, hm1, hs1, hr1⟩ := (by obtain ⟨fuel, hf⟩ := h1; exact open_rows Try.underlying22 Try.underlying23 Try.underlying5 (by kernel_rfl) (by kernel_rfl) hf : ∃ ls : List (List UInt8), len1 = ls.length ∧ ls.length ≤ c1 ∧ c1 ≤ maxLen ∧ (∀ l ∈ ls, l.length ≤ maxLen) ∧ RdBB W W.heap.size A1 ls)
  clear hA0 hval0
  refine (WalSure_walk W A0 c0 l0 hc0 hm0 hx0 hr0 A1 c1 l1 hc1 hm1 hs1 hr1).mono fun e W' ⟨he, bel⟩ => ?_
  subst he
  exact ⟨_, rfl, _, _, _, [], _, [], hW', trodAll_mk1 (shut_bool Try.underlying4 _), (trodAll_cons_mk (Below.trod laidOut_ (by kernel_rfl) (of_decide_eq_true (by kernel_rfl)) k0 bel lt0) (trodAll_cons_mk (Below.trod laidOut_ (by kernel_rfl) (of_decide_eq_true (by kernel_rfl)) k1 bel lt1) trodAll_mk0)), rfl, bel.frame _, fun h => by cases h⟩
theorem over : Rows.walSureRow.holds Try.pinned (OpenSpec.ofChange Rows.walSureSpec) :=
  OpenClaim.holds_of_wide 7 Try.f7 rfl rfl rfl rfl rfl rfl rfl ⟨rfl, rfl, rfl, rfl, rfl⟩ rfl rfl rfl rfl rfl (by kernel_rfl) Try.func7 (by kernel_rfl)
    (of_decide_eq_true (by kernel_rfl)) (by unfold Func.isWrapper; first | (rw [if_pos (by decide +kernel)]; kernel_rfl) | (rw [if_neg (by decide +kernel)]; exact ⟨rfl, rfl⟩))
    (fun os started H enc _ => lifted os started H enc)
end Go.Proofs.Ytlpdiamgpnmeoaa.walSure_
namespace Go.Proofs.Ytlpdiamgpnmeoaa
theorem WalSure_holds : Rows.WalSureSaid := walSure_.over
#print axioms WalSure_holds
end Go.Proofs.Ytlpdiamgpnmeoaa
