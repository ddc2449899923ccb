
/- Records: the steps of a write: a super laid. -/
import Derived.Test.YtlpdiamgpnmeoaaWaF
namespace Go.Proofs.Ytlpdiamgpnmeoaa
open Go.RowKit
set_option linter.unusedVariables false
theorem and1_u64 {a : Nat} (h : a < 18446744073709551616) : bits BinOp.and IntKind.u64 (a : Int) 1 = ((a % 2 : Nat) : Int) := by
  rw [show (1 : Int) = ((1 : Nat) : Int) from rfl, bits_and_u64_nat a 1 h (by omega), Nat.and_one_is_mod]
theorem i64_wrap {n : Int} (h0 : 0 ≤ n) (h1 : n < 9223372036854775808) : IntKind.i64.wrap n = n := by simp only [IntKind.wrap, IntKind.bits, IntKind.signed]; simp; omega
def FP.ownB (B : Nat) (l : List UInt8) : FP := ⟨fun v w => OwnB w B v l, fun _ _ _ hb h => h.below hb⟩
theorem superL_256 (t a l : Nat) : (superL t a l).length = 256 := by
  unfold superL
  rw [List.length_append, List.length_append, List.length_append, List.length_append, num8, num1, num4, zer_len]
theorem own_kp {B B' : Nat} {w : World} {A : Option Addr} {c : Nat} {l : List UInt8} (h : OwnB w B' (.slice A l.length c) l) : Kp B w w.heap.size A (l.map cb) := by
  obtain ⟨A', c', h1, h2, h3, h4⟩ := own_rdO h
  injection h1 with e1 _ _
  subst e1
  exact Kp.of_out h3 h4
set_option maxRecDepth 100000 in
set_option maxHeartbeats 1000000 in
theorem mark1_any (w : World) {B gl g : Nat} {D : DS} {L : LS} {vb vr : Value} {vs : List Value} (h : IsLog w B gl g D L vb vr vs) (hB : B ≤ w.heap.size) {p0 p1 p2 area tail : Nat}
    (h0 : Blk w p0 30 #[.pointer (some ⟨gl, 0, none⟩)]) (h1 : Blk w p1 3 #[.int .i64 (area : Int)]) (h2 : Blk w p2 3 #[.int .i64 (tail : Int)]) (ht : L.turn + 1 < 18446744073709551616) (ha : area < 2) (hl : tail < 1000000000) (hroom : D.loose.length < 1000000) :
    Calls Try.prog 54 #[.pointer (some ⟨p0, 0, none⟩), .pointer (some ⟨p1, 0, none⟩), .pointer (some ⟨p2, 0, none⟩)] w fun e w' => e = .returned (.int .i64 (writeE D (((L.turn + 1) % 2 : Nat) : Int) (superL (L.turn + 1) area tail))) ∧ IsDisk w' B g (writeD D (((L.turn + 1) % 2 : Nat) : Int) (superL (L.turn + 1) area tail)) ∧ DFr B w w' := by
  obtain ⟨T, hT⟩ : ∃ T, T = L.turn + 1 := ⟨_, rfl⟩
  have q0 : w.cell? ⟨p0, 0, none⟩ = some (.pointer (some ⟨gl, 0, none⟩)) := h0.cell 0
  have q1 : w.cell? ⟨p1, 0, none⟩ = some (.int .i64 (area : Int)) := h1.cell 0
  have q2 : w.cell? ⟨p2, 0, none⟩ = some (.int .i64 (tail : Int)) := h2.cell 0
  have c0 : w.cell? ⟨gl, 0, none⟩ = some (.pointer (some ⟨g, 0, none⟩)) := h.blk.cell 0
  have c2 : w.cell? ⟨gl, 2, none⟩ = some (.int .u64 (L.turn : Int)) := h.blk.cell 2
  have l0 := h0.lt
  have l1 := h1.lt
  have l2 := h2.lt
  have lg := h.blk.lt
  have HD := hid h.disk
  have hti : ((L.turn : Int) + 1) = (T : Int) := by omega
  rw [← hT] at ht ⊢
  have HT := hid hT
  obtain ⟨tn, htn⟩ : ∃ x : Int, x = (L.turn : Int) := ⟨_, rfl⟩
  rw [← htn] at c2 hti
  have htl : tn < 18446744073709551615 := by omega
  have htl0 : 0 ≤ tn := by omega
  have hTi : (T : Int) < 18446744073709551616 := by omega
  obtain ⟨S, hS⟩ : ∃ S, S = superL T area tail := ⟨_, rfl⟩
  rw [← hS]
  have hS6 : S.length = 256 := by rw [hS]; exact superL_256 _ _ _
  have HS := hid hS
  have HS6 := hid hS6
  clear hT htn hS hS6 h h0 h1 h2
  go_enter Try.func54, Try.ntmps54
  go_wp2_with fail
  have hand : (T : Int).toNat &&& 1 = T % 2 := by rw [Int.toNat_natCast]; exact Nat.and_one_is_mod T
  refine wp_flow (by kernel_rfl) [0, 1, 3, 7, 0, 16, 48, 0, 0, 0, 896, 2047, 4095] 11 [false, false, false, false, false, false, false, false, false, false, true, true, true, true, true, true, true, true, true, true, true, false] (by kernel_rfl) (by decide) (by kernel_rfl) [FP.eq (.pointer (some ⟨gl, 0, none⟩)), FP.eq (.pointer (some ⟨gl, 0, none⟩)), FP.eq (.pointer (some ⟨gl, 0, none⟩)), FP.eq (.pointer (some ⟨g, 0, none⟩)), FP.eq (.int .u64 (T : Int)), FP.eq (.int .u64 ((T % 2 : Nat) : Int)), FP.eq (.int .i64 ((T % 2 : Nat) : Int)), FP.eq (.int .u64 (T : Int)), FP.eq (.int .i64 (area : Int)), FP.eq (.int .i64 (tail : Int)), FP.ownB w.heap.size S] ?_ ?_
  · refine allFrom_cons ?_ ?_
    · intro a_ w_ hk_
      have h0 : a_.eval (.tmp 0) = .pointer (some ⟨p0, 0, none⟩) := hk_.old 0 (by kernel_rfl)
      have hx_ := hk_.ext
      clear hk_
      refine flow_plain rfl ?_
      unfold gives
      have hc_ : ∀ v, a_.eval (.const v) = v := fun _ => rfl
      have hn_ : ∀ f, a_.eval (.func f) = .func (.func f) #[] #[] := fun _ => rfl
      have hcell := (hx_.cell (p := ⟨p0, 0, none⟩) l0).trans q0
      generalize a_.eval = ρ_ at *
      go_simp
      exact ⟨Below.refl _ _, rfl⟩
    refine allFrom_cons ?_ ?_
    · intro a_ w_ hk_
      have h10 : a_.eval (.tmp 10) = (.pointer (some ⟨gl, 0, none⟩)) := hk_.got 0 10 _ (by kernel_rfl) rfl rfl
      have hx_ := hk_.ext
      clear hk_
      refine flow_plain rfl ?_
      unfold gives
      have hc_ : ∀ v, a_.eval (.const v) = v := fun _ => rfl
      have hn_ : ∀ f, a_.eval (.func f) = .func (.func f) #[] #[] := fun _ => rfl
      generalize a_.eval = ρ_ at *
      go_simp
      exact ⟨Below.refl _ _, rfl⟩
    refine allFrom_cons ?_ ?_
    · intro a_ w_ hk_
      have h11 : a_.eval (.tmp 11) = (.pointer (some ⟨gl, 0, none⟩)) := hk_.got 1 11 _ (by kernel_rfl) rfl rfl
      have hx_ := hk_.ext
      clear hk_
      refine flow_plain rfl ?_
      unfold gives
      have hc_ : ∀ v, a_.eval (.const v) = v := fun _ => rfl
      have hn_ : ∀ f, a_.eval (.func f) = .func (.func f) #[] #[] := fun _ => rfl
      generalize a_.eval = ρ_ at *
      go_simp
      exact ⟨Below.refl _ _, rfl⟩
    refine allFrom_cons ?_ ?_
    · intro a_ w_ hk_
      have h12 : a_.eval (.tmp 12) = (.pointer (some ⟨gl, 0, none⟩)) := hk_.got 2 12 _ (by kernel_rfl) rfl rfl
      have hx_ := hk_.ext
      clear hk_
      refine flow_plain rfl ?_
      unfold gives
      have hc_ : ∀ v, a_.eval (.const v) = v := fun _ => rfl
      have hn_ : ∀ f, a_.eval (.func f) = .func (.func f) #[] #[] := fun _ => rfl
      have hcell := (hx_.cell (p := ⟨gl, 0, none⟩) lg).trans c0
      generalize a_.eval = ρ_ at *
      go_simp
      exact ⟨Below.refl _ _, rfl⟩
    refine allFrom_cons ?_ ?_
    · intro a_ w_ hk_
      have h4 : a_.eval (.tmp 4) = .int .u64 (T : Int) := hk_.old 4 (by kernel_rfl)
      have hx_ := hk_.ext
      clear hk_
      refine flow_plain rfl ?_
      exact gives_move rfl ⟨Below.refl _ _, h4⟩
    refine allFrom_cons ?_ ?_
    · intro a_ w_ hk_
      have h14 : a_.eval (.tmp 14) = (.int .u64 (T : Int)) := hk_.got 4 14 _ (by kernel_rfl) rfl rfl
      have hx_ := hk_.ext
      clear hk_
      refine flow_plain rfl ?_
      unfold gives
      have hc_ : ∀ v, a_.eval (.const v) = v := fun _ => rfl
      have hn_ : ∀ f, a_.eval (.func f) = .func (.func f) #[] #[] := fun _ => rfl
      generalize a_.eval = ρ_ at *
      go_simp
      exact ⟨Below.refl _ _, congrArg (Value.int _) (and1_u64 ht)⟩
    refine allFrom_cons ?_ ?_
    · intro a_ w_ hk_
      have h15 : a_.eval (.tmp 15) = (.int .u64 ((T % 2 : Nat) : Int)) := hk_.got 5 15 _ (by kernel_rfl) rfl rfl
      have hx_ := hk_.ext
      clear hk_
      refine flow_plain rfl ?_
      unfold gives
      have hc_ : ∀ v, a_.eval (.const v) = v := fun _ => rfl
      have hn_ : ∀ f, a_.eval (.func f) = .func (.func f) #[] #[] := fun _ => rfl
      generalize a_.eval = ρ_ at *
      go_simp
      exact ⟨Below.refl _ _, congrArg (Value.int _) (i64_wrap (by omega) (by omega))⟩
    refine allFrom_cons ?_ ?_
    · intro a_ w_ hk_
      have h4 : a_.eval (.tmp 4) = .int .u64 (T : Int) := hk_.old 4 (by kernel_rfl)
      have hx_ := hk_.ext
      clear hk_
      refine flow_plain rfl ?_
      exact gives_move rfl ⟨Below.refl _ _, h4⟩
    refine allFrom_cons ?_ ?_
    · intro a_ w_ hk_
      have h1 : a_.eval (.tmp 1) = .pointer (some ⟨p1, 0, none⟩) := hk_.old 1 (by kernel_rfl)
      have hx_ := hk_.ext
      clear hk_
      refine flow_plain rfl ?_
      unfold gives
      have hc_ : ∀ v, a_.eval (.const v) = v := fun _ => rfl
      have hn_ : ∀ f, a_.eval (.func f) = .func (.func f) #[] #[] := fun _ => rfl
      have hcell := (hx_.cell (p := ⟨p1, 0, none⟩) l1).trans q1
      generalize a_.eval = ρ_ at *
      go_simp
      exact ⟨Below.refl _ _, rfl⟩
    refine allFrom_cons ?_ ?_
    · intro a_ w_ hk_
      have h2 : a_.eval (.tmp 2) = .pointer (some ⟨p2, 0, none⟩) := hk_.old 2 (by kernel_rfl)
      have hx_ := hk_.ext
      clear hk_
      refine flow_plain rfl ?_
      unfold gives
      have hc_ : ∀ v, a_.eval (.const v) = v := fun _ => rfl
      have hn_ : ∀ f, a_.eval (.func f) = .func (.func f) #[] #[] := fun _ => rfl
      have hcell := (hx_.cell (p := ⟨p2, 0, none⟩) l2).trans q2
      generalize a_.eval = ρ_ at *
      go_simp
      exact ⟨Below.refl _ _, rfl⟩
    refine allFrom_cons ?_ ?_
    · intro a_ w_ hk_
      have h17 : a_.eval (.tmp 17) = (.int .u64 (T : Int)) := hk_.got 7 17 _ (by kernel_rfl) rfl rfl
      have h18 : a_.eval (.tmp 18) = (.int .i64 (area : Int)) := hk_.got 8 18 _ (by kernel_rfl) rfl rfl
      have h19 : a_.eval (.tmp 19) = (.int .i64 (tail : Int)) := hk_.got 9 19 _ (by kernel_rfl) rfl rfl
      have hx_ := hk_.ext
      clear hk_
      refine flow_plain rfl ?_
      unfold gives
      have hc_ : ∀ v, a_.eval (.const v) = v := fun _ => rfl
      have hn_ : ∀ f, a_.eval (.func f) = .func (.func f) #[] #[] := fun _ => rfl
      generalize a_.eval = ρ_ at *
      go_simp
      exact (super_any w_ ht (by omega) (by omega)).mono fun e w' ⟨v, h1, h2, h3⟩ => ⟨v, h1, h3, by rw [HS.out]; exact own_lessW h2 hx_.size⟩
    exact allFrom_nil
  intro f_ w_ hx_ hf_
  have h10 : f_ 10 = (.pointer (some ⟨gl, 0, none⟩)) := hf_ 0 10 _ (by decide) rfl rfl
  have h11 : f_ 11 = (.pointer (some ⟨gl, 0, none⟩)) := hf_ 1 11 _ (by decide) rfl rfl
  have h12 : f_ 12 = (.pointer (some ⟨gl, 0, none⟩)) := hf_ 2 12 _ (by decide) rfl rfl
  have h13 : f_ 13 = (.pointer (some ⟨g, 0, none⟩)) := hf_ 3 13 _ (by decide) rfl rfl
  have h14 : f_ 14 = (.int .u64 (T : Int)) := hf_ 4 14 _ (by decide) rfl rfl
  have h15 : f_ 15 = (.int .u64 ((T % 2 : Nat) : Int)) := hf_ 5 15 _ (by decide) rfl rfl
  have h16 : f_ 16 = (.int .i64 ((T % 2 : Nat) : Int)) := hf_ 6 16 _ (by decide) rfl rfl
  have h17 : f_ 17 = (.int .u64 (T : Int)) := hf_ 7 17 _ (by decide) rfl rfl
  have h18 : f_ 18 = (.int .i64 (area : Int)) := hf_ 8 18 _ (by decide) rfl rfl
  have h19 : f_ 19 = (.int .i64 (tail : Int)) := hf_ 9 19 _ (by decide) rfl rfl
  have h20 : (FP.ownB w.heap.size S).p (f_ 20) w_ := hf_ 10 20 _ (by decide) rfl rfl
  simp only [mix, List.drop_succ_cons, List.drop_zero, h10, h11, h12, h13, h14, h15, h16, h17, h18, h19]
  clear h10 h11 h12 h13 h14 h15 h16 h17 h18 h19
  clear hf_
  have hO : OwnB w_ w.heap.size (f_ 20) S := h20
  obtain ⟨A, c, e20, hc, hm, _⟩ := own_form hO
  rw [e20] at hO ⊢
  have hDw := HD.out.below hx_
  have hBw := Nat.le_trans hB hx_.size
  have hK := hid (own_kp (B := B) hO)
  clear hO h20
  go_wp2_with fail
  refine (Write_any w_ hDw hBw _ (by rw [HS6.out]; decide) hK.out (Nat.le_refl _) hroom).mono ?_
  rintro e w5 ⟨rfl, hd5, hf5⟩
  go_wp2
  go_ret
  exact ⟨rfl, hd5, (DFr.of_below hx_ hB).trans hf5⟩
/-- Three new blocks of a cell. -/
theorem three_new (w : World) (t0 t1 t2 : TypeId) (v0 v1 v2 : Value) :
    Blk (((w.alloc (.cells #[v0] t0)).alloc (.cells #[v1] t1)).alloc (.cells #[v2] t2)) w.heap.size t0 #[v0] ∧ Blk (((w.alloc (.cells #[v0] t0)).alloc (.cells #[v1] t1)).alloc (.cells #[v2] t2)) (w.heap.size + 1) t1 #[v1] ∧ Blk (((w.alloc (.cells #[v0] t0)).alloc (.cells #[v1] t1)).alloc (.cells #[v2] t2)) (w.heap.size + 2) t2 #[v2] := by
  refine ⟨((Blk.new w _ _).alloc _).alloc _, ?_, ?_⟩
  · have := (Blk.new (w.alloc (.cells #[v0] t0)) t1 #[v1]).alloc (.cells #[v2] t2)
    rwa [World.size_alloc] at this
  · have := Blk.new ((w.alloc (.cells #[v0] t0)).alloc (.cells #[v1] t1)) t2 #[v2]
    rwa [World.size_alloc, World.size_alloc] at this
set_option maxRecDepth 100000 in
set_option maxHeartbeats 1000000 in
theorem mark_any (w : World) {gl area tail : Nat} :
    Calls Try.prog 36 #[.pointer (some ⟨gl, 0, none⟩), .int .i64 (area : Int), .int .i64 (tail : Int)] w fun e w' => ∃ p0 p1 p2, e = .returned (.func (.func 54) #[] #[.pointer (some ⟨p0, 0, none⟩), .pointer (some ⟨p1, 0, none⟩), .pointer (some ⟨p2, 0, none⟩)]) ∧ Blk w' p0 30 #[.pointer (some ⟨gl, 0, none⟩)] ∧ Blk w' p1 3 #[.int .i64 (area : Int)] ∧ Blk w' p2 3 #[.int .i64 (tail : Int)] ∧ Below w.heap.size w w' := by
  go_enter Try.func36, Try.ntmps36
  go_wp2_with fail
  go_ret
  obtain ⟨h0, h1, h2⟩ := three_new w 30 3 3 (.pointer (some ⟨gl, 0, none⟩)) (.int .i64 (area : Int)) (.int .i64 (tail : Int))
  exact ⟨_, _, _, rfl, h0, h1, h2, bx_alloc (bx_alloc (bx_alloc (Below.refl _ w) _) _) _⟩
end Go.Proofs.Ytlpdiamgpnmeoaa
