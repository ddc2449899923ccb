
/- Records: the small ones: Free, Sure, Err. -/
import Derived.Test.YtlpdiamgpnmeoaaWaG
namespace Go.Proofs.Ytlpdiamgpnmeoaa
open Go.RowKit
set_option linter.unusedVariables false
set_option maxRecDepth 100000 in
set_option maxHeartbeats 1000000 in
theorem Free_any (w : World) {B gl g : Nat} {D : DS} {L : LS} {vb vr : Value} {vs : List Value} (h : IsLog w B gl g D L vb vr vs) (hs : L.size ≤ 1000000) :
    Calls Try.prog 20 #[.pointer (some ⟨gl, 0, none⟩)] w fun e w' => e = .returned (.int .i64 ((L.size * 256 - L.b.length : Nat) : Int)) ∧ Below w.heap.size w w' := by
  obtain ⟨A, c, hv, hbc, hcm, _⟩ := h.by_
  have hl := h.len
  have hblk := h.blk
  rw [hv] at hblk
  have c1 : w.cell? ⟨gl, 1, none⟩ = some (.int .i64 (L.size : Int)) := hblk.cell 1
  have c4 : w.cell? ⟨gl, 4, none⟩ = some (.slice A L.b.length c) := hblk.cell 4
  have lg := hblk.lt
  clear hblk hv h
  have hri : ((L.size * 256 - L.b.length : Nat) : Int) = (L.size : Int) * 256 - (L.b.length : Int) := by omega
  rw [hri]
  have b1 : (L.size : Int) ≤ 1000000 := by omega
  have b2 : (L.b.length : Int) ≤ (L.size : Int) * 256 := by omega
  clear hri hl hs
  go_enter Try.func20, Try.ntmps20
  go_wp2_with fail
  refine wp_flow (by kernel_rfl) [0, 1, 3, 7, 15, 0, 32, 96, 224, 480, 1023, 2047] 11 [false, false, false, false, false, true, true, true, true, true, true, true, true, true, true, true] (by kernel_rfl) (by decide) (by kernel_rfl) [FP.eq (.pointer (some ⟨gl, 0, none⟩)), FP.eq (.pointer (some ⟨gl, 0, none⟩)), FP.eq (.pointer (some ⟨gl, 1, none⟩)), FP.eq (.int .i64 (L.size : Int)), FP.eq (.int .i64 ((L.size : Int) * 256)), FP.eq (.pointer (some ⟨gl, 0, none⟩)), FP.eq (.pointer (some ⟨gl, 0, none⟩)), FP.eq (.pointer (some ⟨gl, 4, none⟩)), FP.eq (.slice A L.b.length c), FP.eq (.int .i64 (L.b.length : Int)), FP.eq (.int .i64 ((L.size : Int) * 256 - (L.b.length : Int)))] ?_ ?_
  · refine allFrom_cons ?_ ?_
    · intro a_ w_ hk_
      have h0 : a_.eval (.tmp 0) = .pointer (some ⟨gl, 0, none⟩) := hk_.old 0 (by kernel_rfl)
      have hx_ := hk_.ext
      clear hk_
      refine flow_plain rfl ?_
      exact gives_move rfl ⟨Below.refl _ _, h0⟩
    refine allFrom_cons ?_ ?_
    · intro a_ w_ hk_
      have h5 : a_.eval (.tmp 5) = (.pointer (some ⟨gl, 0, none⟩)) := hk_.got 0 5 _ (by kernel_rfl) rfl rfl
      have hx_ := hk_.ext
      clear hk_
      refine flow_plain rfl ?_
      unfold gives
      have hc_ : ∀ v, a_.eval (.const v) = v := fun _ => rfl
      have hn_ : ∀ f, a_.eval (.func f) = .func (.func f) #[] #[] := fun _ => rfl
      generalize a_.eval = ρ_ at *
      go_simp
      exact ⟨Below.refl _ _, rfl⟩
    refine allFrom_cons ?_ ?_
    · intro a_ w_ hk_
      have h6 : a_.eval (.tmp 6) = (.pointer (some ⟨gl, 0, none⟩)) := hk_.got 1 6 _ (by kernel_rfl) rfl rfl
      have hx_ := hk_.ext
      clear hk_
      refine flow_plain rfl ?_
      unfold gives
      have hc_ : ∀ v, a_.eval (.const v) = v := fun _ => rfl
      have hn_ : ∀ f, a_.eval (.func f) = .func (.func f) #[] #[] := fun _ => rfl
      generalize a_.eval = ρ_ at *
      go_simp
      exact ⟨Below.refl _ _, rfl⟩
    refine allFrom_cons ?_ ?_
    · intro a_ w_ hk_
      have h7 : a_.eval (.tmp 7) = (.pointer (some ⟨gl, 1, none⟩)) := hk_.got 2 7 _ (by kernel_rfl) rfl rfl
      have hx_ := hk_.ext
      clear hk_
      refine flow_plain rfl ?_
      unfold gives
      have hc_ : ∀ v, a_.eval (.const v) = v := fun _ => rfl
      have hn_ : ∀ f, a_.eval (.func f) = .func (.func f) #[] #[] := fun _ => rfl
      have hcell := (hx_.cell (p := ⟨gl, 1, none⟩) lg).trans c1
      generalize a_.eval = ρ_ at *
      go_simp
      exact ⟨Below.refl _ _, rfl⟩
    refine allFrom_cons ?_ ?_
    · intro a_ w_ hk_
      have h8 : a_.eval (.tmp 8) = (.int .i64 (L.size : Int)) := hk_.got 3 8 _ (by kernel_rfl) rfl rfl
      have hx_ := hk_.ext
      clear hk_
      refine flow_plain rfl ?_
      unfold gives
      have hc_ : ∀ v, a_.eval (.const v) = v := fun _ => rfl
      have hn_ : ∀ f, a_.eval (.func f) = .func (.func f) #[] #[] := fun _ => rfl
      generalize a_.eval = ρ_ at *
      go_simp
      exact ⟨Below.refl _ _, congrArg (Value.int _) (i64_wrap (by omega) (by omega))⟩
    refine allFrom_cons ?_ ?_
    · intro a_ w_ hk_
      have h0 : a_.eval (.tmp 0) = .pointer (some ⟨gl, 0, none⟩) := hk_.old 0 (by kernel_rfl)
      have hx_ := hk_.ext
      clear hk_
      refine flow_plain rfl ?_
      exact gives_move rfl ⟨Below.refl _ _, h0⟩
    refine allFrom_cons ?_ ?_
    · intro a_ w_ hk_
      have h10 : a_.eval (.tmp 10) = (.pointer (some ⟨gl, 0, none⟩)) := hk_.got 5 10 _ (by kernel_rfl) rfl rfl
      have hx_ := hk_.ext
      clear hk_
      refine flow_plain rfl ?_
      unfold gives
      have hc_ : ∀ v, a_.eval (.const v) = v := fun _ => rfl
      have hn_ : ∀ f, a_.eval (.func f) = .func (.func f) #[] #[] := fun _ => rfl
      generalize a_.eval = ρ_ at *
      go_simp
      exact ⟨Below.refl _ _, rfl⟩
    refine allFrom_cons ?_ ?_
    · intro a_ w_ hk_
      have h11 : a_.eval (.tmp 11) = (.pointer (some ⟨gl, 0, none⟩)) := hk_.got 6 11 _ (by kernel_rfl) rfl rfl
      have hx_ := hk_.ext
      clear hk_
      refine flow_plain rfl ?_
      unfold gives
      have hc_ : ∀ v, a_.eval (.const v) = v := fun _ => rfl
      have hn_ : ∀ f, a_.eval (.func f) = .func (.func f) #[] #[] := fun _ => rfl
      generalize a_.eval = ρ_ at *
      go_simp
      exact ⟨Below.refl _ _, rfl⟩
    refine allFrom_cons ?_ ?_
    · intro a_ w_ hk_
      have h12 : a_.eval (.tmp 12) = (.pointer (some ⟨gl, 4, none⟩)) := hk_.got 7 12 _ (by kernel_rfl) rfl rfl
      have hx_ := hk_.ext
      clear hk_
      refine flow_plain rfl ?_
      unfold gives
      have hc_ : ∀ v, a_.eval (.const v) = v := fun _ => rfl
      have hn_ : ∀ f, a_.eval (.func f) = .func (.func f) #[] #[] := fun _ => rfl
      have hcell := (hx_.cell (p := ⟨gl, 4, none⟩) lg).trans c4
      generalize a_.eval = ρ_ at *
      go_simp
      exact ⟨Below.refl _ _, rfl⟩
    refine allFrom_cons ?_ ?_
    · intro a_ w_ hk_
      have h13 : a_.eval (.tmp 13) = (.slice A L.b.length c) := hk_.got 8 13 _ (by kernel_rfl) rfl rfl
      have hx_ := hk_.ext
      clear hk_
      refine flow_plain rfl ?_
      unfold gives
      have hc_ : ∀ v, a_.eval (.const v) = v := fun _ => rfl
      have hn_ : ∀ f, a_.eval (.func f) = .func (.func f) #[] #[] := fun _ => rfl
      generalize a_.eval = ρ_ at *
      go_simp
      exact ⟨Below.refl _ _, rfl⟩
    refine allFrom_cons ?_ ?_
    · intro a_ w_ hk_
      have h9 : a_.eval (.tmp 9) = (.int .i64 ((L.size : Int) * 256)) := hk_.got 4 9 _ (by kernel_rfl) rfl rfl
      have h14 : a_.eval (.tmp 14) = (.int .i64 (L.b.length : Int)) := hk_.got 9 14 _ (by kernel_rfl) rfl rfl
      have hx_ := hk_.ext
      clear hk_
      refine flow_plain rfl ?_
      unfold gives
      have hc_ : ∀ v, a_.eval (.const v) = v := fun _ => rfl
      have hn_ : ∀ f, a_.eval (.func f) = .func (.func f) #[] #[] := fun _ => rfl
      generalize a_.eval = ρ_ at *
      go_simp
      exact ⟨Below.refl _ _, congrArg (Value.int _) (i64_wrap (by omega) (by omega))⟩
    exact allFrom_nil
  intro f_ w_ hx_ hf_
  have h5 : f_ 5 = (.pointer (some ⟨gl, 0, none⟩)) := hf_ 0 5 _ (by decide) rfl rfl
  have h6 : f_ 6 = (.pointer (some ⟨gl, 0, none⟩)) := hf_ 1 6 _ (by decide) rfl rfl
  have h7 : f_ 7 = (.pointer (some ⟨gl, 1, none⟩)) := hf_ 2 7 _ (by decide) rfl rfl
  have h8 : f_ 8 = (.int .i64 (L.size : Int)) := hf_ 3 8 _ (by decide) rfl rfl
  have h9 : f_ 9 = (.int .i64 ((L.size : Int) * 256)) := hf_ 4 9 _ (by decide) rfl rfl
  have h10 : f_ 10 = (.pointer (some ⟨gl, 0, none⟩)) := hf_ 5 10 _ (by decide) rfl rfl
  have h11 : f_ 11 = (.pointer (some ⟨gl, 0, none⟩)) := hf_ 6 11 _ (by decide) rfl rfl
  have h12 : f_ 12 = (.pointer (some ⟨gl, 4, none⟩)) := hf_ 7 12 _ (by decide) rfl rfl
  have h13 : f_ 13 = (.slice A L.b.length c) := hf_ 8 13 _ (by decide) rfl rfl
  have h14 : f_ 14 = (.int .i64 (L.b.length : Int)) := hf_ 9 14 _ (by decide) rfl rfl
  have h15 : f_ 15 = (.int .i64 ((L.size : Int) * 256 - (L.b.length : Int))) := hf_ 10 15 _ (by decide) rfl rfl
  simp only [mix, List.drop_succ_cons, List.drop_zero, h5, h6, h7, h8, h9, h10, h11, h12, h13, h14, h15]
  clear h5 h6 h7 h8 h9 h10 h11 h12 h13 h14 h15
  clear hf_
  go_wp2_with fail
  go_ret
  exact ⟨rfl, hx_⟩
set_option maxRecDepth 100000 in
set_option maxHeartbeats 1000000 in
theorem Sure_any (w : World) {B gl g : Nat} {D : DS} {L : LS} {vb vr : Value} {vs : List Value} (h : IsLog w B gl g D L vb vr vs) :
    Calls Try.prog 19 #[.pointer (some ⟨gl, 0, none⟩)] w fun e w' => e = .returned (.int .i64 (L.sure : Int)) ∧ w = w' := by
  have c6 : w.cell? ⟨gl, 6, none⟩ = some (.int .i64 (L.sure : Int)) := h.blk.cell 6
  clear h
  go_enter Try.func19, Try.ntmps19
  go_wp2_with fail
  go_ret
  exact ⟨rfl, rfl⟩
set_option maxRecDepth 100000 in
set_option maxHeartbeats 1000000 in
theorem LErr_any (w : World) {B gl g : Nat} {D : DS} {L : LS} {vb vr : Value} {vs : List Value} (h : IsLog w B gl g D L vb vr vs) :
    Calls Try.prog 22 #[.pointer (some ⟨gl, 0, none⟩)] w fun e w' => e = .returned (.int .i64 L.e) ∧ w = w' := by
  have c7 : w.cell? ⟨gl, 7, none⟩ = some (.int .i64 L.e) := h.blk.cell 7
  clear h
  go_enter Try.func22, Try.ntmps22
  go_wp2_with fail
  go_ret
  exact ⟨rfl, rfl⟩
end Go.Proofs.Ytlpdiamgpnmeoaa
