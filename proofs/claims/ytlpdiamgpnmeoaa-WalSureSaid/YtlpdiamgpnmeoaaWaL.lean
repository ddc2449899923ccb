
/- SHA-256: Of. -/
import Derived.Test.YtlpdiamgpnmeoaaWaK
import Derived.RangeFuncNested
import Derived.RangeFuncBound
import Derived.RangeFuncCalls
import Derived.RangeFuncLeaves
import Derived.RangeFuncFrom
import Derived.TacticsInMore
import Derived.OwnWalkIn
import Derived.LoopNIn
import Derived.LoopIn
namespace Go.Proofs.Ytlpdiamgpnmeoaa
open Go.RowKit
set_option linter.unusedVariables false

set_option maxHeartbeats 1000000 in
theorem Chunk_any (w : World) (A : Option Addr) (n c : Nat) : Calls Try.prog 51 #[.slice A n c, .int .i64 256] w fun e w' => e = .returned (.func (.func 59) #[] #[.pointer (some ⟨w.heap.size, 0, none⟩), .pointer (some ⟨w.heap.size + 1, 0, none⟩)]) ∧ w' = (w.alloc (.cells #[.slice A n c] 23)).alloc (.cells #[.int .i64 256] 3) := by
  go_enter Try.func51, Try.ntmps51
  go_wp2
  go_ret
  exact ⟨rfl, rfl⟩
attribute [local go_sem] Oper.semAt_some
/-- What a round keeps: the two captured variables. -/
def KpB (Bs Bn : Nat) (W W' : World) : Prop := W'.heap[Bs]? = W.heap[Bs]? ∧ W'.heap[Bn]? = W.heap[Bn]?
theorem KpB.refl (Bs Bn : Nat) (W : World) : KpB Bs Bn W W := ⟨rfl, rfl⟩
theorem KpB.trans {Bs Bn : Nat} {A B C : World} (h : KpB Bs Bn A B) (k : KpB Bs Bn B C) : KpB Bs Bn A C := ⟨k.1.trans h.1, k.2.trans h.2⟩
theorem KpB.s {Bs Bn : Nat} {A B : World} (h : KpB Bs Bn A B) : B.cell? ⟨Bs, 0, none⟩ = A.cell? ⟨Bs, 0, none⟩ := World.cell?_of_block h.1
theorem KpB.n {Bs Bn : Nat} {A B : World} (h : KpB Bs Bn A B) : B.cell? ⟨Bn, 0, none⟩ = A.cell? ⟨Bn, 0, none⟩ := World.cell?_of_block h.2
/-- How long is a piece? -/
def lenC (N k : Nat) : Nat := if N - 256 * k < 256 then N - 256 * k else 256
set_option maxRecDepth 100000 in
set_option maxHeartbeats 1000000 in
theorem chunk1_in (n : Nat) (hn : 1 ≤ n) (m l Bs Bn g cap : Nat) (hm : m ≤ 100000000) (o N : Nat) (hN1 : 256 * m < N + 256) (hN2 : N ≤ 256 * m) (hcap : N ≤ cap) (hcap2 : cap ≤ 9223372036854775807) (W : World) (A : Option Addr) (hA : 1 ≤ m → A = some ⟨g, o, none⟩) (J Jx : List (Fin m) → World → Prop) (B0 : Nat) (hJA : AbidesFrom B0 J)
    (hY : ∀ pre x W, J pre W → pre.length < m → YieldAt Fence.wide (n - 1) Try.prog l #[.slice (some ⟨g, o + 256 * x.val, none⟩) (lenC N x.val) (lenC N x.val)] W fun e W' =>
      (e = .returned (.bool true) ∧ J (pre ++ [x]) W' ∧ KpB Bs Bn W W') ∨ (e = .returned (.bool false) ∧ Jx (pre ++ [x]) W'))
    (hs : W.cell? ⟨Bs, 0, none⟩ = some (.slice A N cap)) (hk : W.cell? ⟨Bn, 0, none⟩ = some (.int .i64 256)) (h0 : J [] W) :
    CallsIn Fence.wide n Try.prog 59 #[.func (.yield l) #[] #[], .pointer (some ⟨Bs, 0, none⟩), .pointer (some ⟨Bn, 0, none⟩)] W fun e W' => (∃ v, e = .returned v) ∧
      ((∃ ys : List (Fin m), ys.map Fin.val = List.range m ∧ J ys W') ∨ (∃ pre : List (Fin m), (∃ k, k ≤ m ∧ pre.map Fin.val = List.range k) ∧ Jx pre W')) := by
  have HY := hid hY
  clear hY
  have hN9 : N ≤ 25600000000 := by omega
  refine callsIn_of_wp Try.func59 rfl trivial ?_ rfl
  simp only [Try.ntmps59, List.size_toArray, List.length_cons, List.length_nil, Nat.reduceAdd, Nat.reduceSub, Array.replicate_succ, Array.replicate_zero, List.push_toArray, List.append_toArray, List.nil_append, List.cons_append]
  gi_wp2
  gi_loopw [4] (fun i wr => ∃ (k : Nat) (pre : List (Fin m)), k ≤ m ∧ i = .int .i64 ((256 * k : Nat) : Int) ∧ pre.map Fin.val = List.range k ∧ J pre wr ∧ KpB Bs Bn W wr)
    (fun i _ => N + 256 - (ofInt i).toNat)
  case atStart => exact ⟨0, [], Nat.zero_le _, rfl, rfl, h0, KpB.refl _ _ _⟩
  case round =>
    obtain ⟨k, pre, hk', rfl, hpre, hJs, hnx⟩ := hrel
    have hcs := hnx.s.trans hs
    have hcn := hnx.n.trans hk
    have hpl : pre.length = k := by rw [← List.length_map (f := Fin.val), hpre, List.length_range]
    by_cases hlt : k < m
    · rw [hA (by omega)] at hcs
      obtain ⟨a, ha⟩ : ∃ a, a = 256 * k := ⟨_, rfl⟩
      rw [← ha]
      have haN : a < N := by omega
      have haN' : (a : Int) < (N : Int) := by omega
      obtain ⟨y, hy0⟩ : ∃ y, y = lenC N k := ⟨_, rfl⟩
      have hy1 : y ≤ N - a ∧ y ≤ 256 ∧ 1 ≤ y ∧ ((((N - a : Nat) : Int) < 256 ∧ y = N - a) ∨ (¬ ((N - a : Nat) : Int) < 256 ∧ y = 256)) := by
        rw [hy0]
        unfold lenC
        rw [← ha]
        split <;> omega
      obtain ⟨hyN, hy256, hyp, hyc'⟩ := hy1
      have HYC := hid hyc'
      clear hyc'
      have hac : ¬ cap = a := by omega
      have haM2 : a ≤ N := by omega
      have HA := hid ha
      have HY0 := hid hy0
      have hBsl : Bs < wr.heap.size := World.block_lt_of_cell? wr _ hcs
      have hBnl : Bn < wr.heap.size := World.block_lt_of_cell? wr _ hcn
      clear hy0 ha
      gi_wp2
      refine wpIn_wide.2 ?_
      refine wp_flow (by kernel_rfl) [0, 0, 0, 6, 14, 31, 63] 7 [false, false, false, false, false, true, false, false, false, false, false, false, false, true, true, true, true, true, true] (by kernel_rfl) (by decide) (by kernel_rfl) [FP.eq (.int .i64 256), FP.eq (.slice (some ⟨g, o, none⟩) N cap), FP.eq (.int .i64 a), FP.eq (.slice (some ⟨g, o + a, none⟩) (N - a) (cap - a)), FP.eq (.int .i64 ((N - a : Nat) : Int)), FP.eq (.int .i64 (y : Int)), FP.eq (.int .i64 (y : Int))] ?_ ?_
      · refine allFrom_cons ?_ ?_
        · intro a_ w_ hk_
          have h2 : a_.eval (.tmp 2) = .pointer (some ⟨Bn, 0, none⟩) := hk_.old 2 (by kernel_rfl)
          have hx_ := hk_.ext
          clear hk_
          refine flow_plain rfl ?_
          unfold gives
          have hc_ : ∀ v, a_.eval (.const v) = v := fun _ => rfl
          have hn_ : ∀ f, a_.eval (.func f) = .func (.func f) #[] #[] := fun _ => rfl
          have hcell := (hx_.cell (p := ⟨Bn, 0, none⟩) hBnl).trans hcn
          generalize a_.eval = ρ_ at *
          go_simp
          exact ⟨Below.refl _ _, rfl⟩
        refine allFrom_cons ?_ ?_
        · intro a_ w_ hk_
          have h1 : a_.eval (.tmp 1) = .pointer (some ⟨Bs, 0, none⟩) := hk_.old 1 (by kernel_rfl)
          have hx_ := hk_.ext
          clear hk_
          refine flow_plain rfl ?_
          unfold gives
          have hc_ : ∀ v, a_.eval (.const v) = v := fun _ => rfl
          have hn_ : ∀ f, a_.eval (.func f) = .func (.func f) #[] #[] := fun _ => rfl
          have hcell := (hx_.cell (p := ⟨Bs, 0, none⟩) hBsl).trans hcs
          generalize a_.eval = ρ_ at *
          go_simp
          exact ⟨Below.refl _ _, rfl⟩
        refine allFrom_cons ?_ ?_
        · intro a_ w_ hk_
          have h4 : a_.eval (.tmp 4) = .int .i64 a := hk_.old 4 (by kernel_rfl)
          have hx_ := hk_.ext
          clear hk_
          refine flow_plain rfl ?_
          exact gives_move rfl ⟨Below.refl _ _, h4⟩
        refine allFrom_cons ?_ ?_
        · intro a_ w_ hk_
          have h14 : a_.eval (.tmp 14) = (.slice (some ⟨g, o, none⟩) N cap) := hk_.got 1 14 _ (by kernel_rfl) rfl rfl
          have h15 : a_.eval (.tmp 15) = (.int .i64 a) := hk_.got 2 15 _ (by kernel_rfl) rfl rfl
          have hx_ := hk_.ext
          clear hk_
          refine flow_plain rfl ?_
          unfold gives
          have hc_ : ∀ v, a_.eval (.const v) = v := fun _ => rfl
          have hn_ : ∀ f, a_.eval (.func f) = .func (.func f) #[] #[] := fun _ => rfl
          generalize a_.eval = ρ_ at *
          go_simp
          exact ⟨Below.refl _ _, rfl⟩
        refine allFrom_cons ?_ ?_
        · intro a_ w_ hk_
          have h16 : a_.eval (.tmp 16) = (.slice (some ⟨g, o + a, none⟩) (N - a) (cap - a)) := hk_.got 3 16 _ (by kernel_rfl) rfl rfl
          have hx_ := hk_.ext
          clear hk_
          refine flow_plain rfl ?_
          unfold gives
          have hc_ : ∀ v, a_.eval (.const v) = v := fun _ => rfl
          have hn_ : ∀ f, a_.eval (.func f) = .func (.func f) #[] #[] := fun _ => rfl
          generalize a_.eval = ρ_ at *
          go_simp
          exact ⟨Below.refl _ _, rfl⟩
        refine allFrom_cons ?_ ?_
        · intro a_ w_ hk_
          have h13 : a_.eval (.tmp 13) = (.int .i64 256) := hk_.got 0 13 _ (by kernel_rfl) rfl rfl
          have h17 : a_.eval (.tmp 17) = (.int .i64 ((N - a : Nat) : Int)) := hk_.got 4 17 _ (by kernel_rfl) rfl rfl
          have hx_ := hk_.ext
          clear hk_
          refine flow_plain rfl ?_
          unfold gives
          have hc_ : ∀ v, a_.eval (.const v) = v := fun _ => rfl
          have hn_ : ∀ f, a_.eval (.func f) = .func (.func f) #[] #[] := fun _ => rfl
          generalize a_.eval = ρ_ at *
          go_simp
          rcases HYC.out with ⟨hc, hyc⟩ | ⟨hc, hyc⟩ <;> (go_simp; first | exact ⟨Below.refl _ _, rfl⟩ | (rw [if_neg (by omega)]; exact ⟨Below.refl _ _, rfl⟩))
        refine allFrom_cons ?_ ?_
        · intro a_ w_ hk_
          have h18 : a_.eval (.tmp 18) = (.int .i64 (y : Int)) := hk_.got 5 18 _ (by kernel_rfl) rfl rfl
          have hx_ := hk_.ext
          clear hk_
          refine flow_plain rfl ?_
          exact gives_assign rfl ⟨Below.refl _ _, h18⟩
        exact allFrom_nil
      intro f_ w_ hx_ hf_
      have h13 : f_ 13 = (.int .i64 256) := hf_ 0 13 _ (by decide) rfl rfl
      have h14 : f_ 14 = (.slice (some ⟨g, o, none⟩) N cap) := hf_ 1 14 _ (by decide) rfl rfl
      have h15 : f_ 15 = (.int .i64 a) := hf_ 2 15 _ (by decide) rfl rfl
      have h16 : f_ 16 = (.slice (some ⟨g, o + a, none⟩) (N - a) (cap - a)) := hf_ 3 16 _ (by decide) rfl rfl
      have h17 : f_ 17 = (.int .i64 ((N - a : Nat) : Int)) := hf_ 4 17 _ (by decide) rfl rfl
      have h18 : f_ 18 = (.int .i64 (y : Int)) := hf_ 5 18 _ (by decide) rfl rfl
      have h5 : f_ 5 = (.int .i64 (y : Int)) := hf_ 6 5 _ (by decide) rfl rfl
      simp only [mix, List.drop_succ_cons, List.drop_zero, h13, h14, h15, h16, h17, h18, h5]
      clear h13 h14 h15 h16 h17 h18 h5
      clear hf_
      have hJ2 : J pre w_ := hJA pre wr w_ none hJs ⟨hx_.os, hx_.tape, hx_.output, hx_.size, fun k hk _ => hx_.block k hk⟩ (fun _ h => by cases h)
      obtain ⟨fn, tmps, assign, body, hy, hR⟩ := HY.out pre ⟨k, hlt⟩ w_ hJ2 (by omega)
      have hy' : (Instr.yield l #[.slice (some ⟨g, o + a, none⟩) y y]).run Try.prog w_ = .ok (.round l fn tmps assign body) w_ := by rw [HA.out, HY0.out]; exact hy
      have hcs2 := (hx_.cell (p := ⟨Bs, 0, none⟩) hBsl).trans hcs
      have hcn2 := (hx_.cell (p := ⟨Bn, 0, none⟩) hBnl).trans hcn
      have hnx2 := hnx.trans (⟨hx_.block Bs hBsl, hx_.block Bn hBnl⟩ : KpB Bs Bn wr w_)
      clear hy
      clear hcs hcn hJs hnx
      go_wp2
      gi_wp2
      refine hR.mono ?_
      rintro e W3 (⟨rfl, hJ3, hk3⟩ | ⟨rfl, hJx3⟩)
      · have hcn3 := hk3.n.trans hcn2
        have hB3 := hnx2.trans hk3
        clear hJ2 hcs2 hcn2 hnx2 hk3 hR hy'
        gi_wp2
        have hae := HA.out
        subst hae
        go_roundw
        case rel => exact ⟨k + 1, pre ++ [⟨k, hlt⟩], by omega, by go_num, by rw [List.map_append, hpre, List.range_succ]; rfl, hJ3, hB3⟩
        case measure => show N + 256 - ((256 * k : Nat) + 256 : Int).toNat < N + 256 - ((256 * k : Nat) : Int).toNat; omega
      · clear hJ2 hcs2 hcn2 hnx2 hR hy'
        gi_wp2
        refine bodyPost_ret (results_none rfl _ _ _) rfl ?_
        exact ⟨⟨_, rfl⟩, .inr ⟨_, ⟨k + 1, by omega, by rw [List.map_append, hpre, List.range_succ]; rfl⟩, hJx3⟩⟩
    · obtain rfl : k = m := by omega
      have hend : ¬ ((256 * k : Nat) : Int) < (N : Int) := by omega
      gi_wp2
      go_end0
      exact ⟨⟨_, rfl⟩, .inl ⟨_, hpre, hJs⟩⟩
end Go.Proofs.Ytlpdiamgpnmeoaa
