
/- A frontier: From, Peaks. -/
import Derived.Test.YtohkfnmggmlogaaDoorFrA
namespace Go.Proofs.YtohkfnmggmlogaaDoor
open Go.RowKit
set_option linter.unusedVariables false
set_option maxHeartbeats 400000 in
theorem Peaks_nil (w : World) : Calls Tryd.prog 15 #[.pointer none] w fun e w' => e = .returned (.slice none 0 0) ∧ w' = w := by
  go_enter Tryd.func15, Tryd.ntmps15
  go_wp2
  go_ret
  exact ⟨rfl, rfl⟩
set_option maxHeartbeats 400000 in
theorem Peaks_any (w : World) {B g n : Nat} {st : List (List UInt8)} {A : Option Addr} {c : Nat} (h : IsF w B g n st A c) (hn : st.length ≤ 1000000) :
    Calls Tryd.prog 15 #[.pointer (some ⟨g, 0, none⟩)] w fun e w' => ∃ v, e = .returned v ∧ w'.ownsRow w.heap.size tHa 32 v st.length (st.reverse.flatten.map cb) ∧ Below w.heap.size w w' := by
  have c1 : w.cell? ⟨g, 1, none⟩ = some (.slice A st.length c) := h.blk.cell 1
  have HC := hid (Clone_any w (c := c) (by rw [List.length_reverse] : st.reverse.length = st.length) hn (own_rd h.own) (fun p hp => h.ok p (List.mem_reverse.1 hp)))
  clear h
  go_enter Tryd.func15, Tryd.ntmps15
  go_wp2_with fail
  refine HC.out.mono ?_
  rintro e w1 ⟨v, rfl, hown, hb⟩
  go_wp2
  go_ret
  exact ⟨_, rfl, hown, hb⟩
set_option maxHeartbeats 400000 in
theorem From_no (w : World) (A : Option Addr) (c n m : Nat) (hn : n < 18446744073709551616) (hm : m ≤ 1000000) (hne : ones n ≠ m) :
    Calls Tryd.prog 11 #[.int .u64 (n : Int), .slice A m c] w fun e w' => e = .returned (.tuple #[.pointer none, .int .i64 1]) ∧ w' = w := by
  have HO := hid (OnesCount64_any w n hn)
  obtain ⟨o, ho⟩ : ∃ o, o = ones n := ⟨_, rfl⟩
  rw [← ho] at HO hne
  clear ho
  go_enter Tryd.func11, Tryd.ntmps11
  go_wp2_with fail
  refine HO.out.mono ?_
  rintro e w1 ⟨rfl, rfl⟩
  have hne2 : ¬ (o : Int) = (m : Int) := by omega
  go_wp2
  go_ret2
  exact ⟨rfl, rfl⟩
set_option maxHeartbeats 1000000 in
theorem From_ok (w : World) (A : Option Addr) (c n m : Nat) {hs : List (List UInt8)} (hn : n < 18446744073709551616) (hm : m ≤ 1000000) (he : ones n = m) (hl : hs.length = m) (hr : Rd w w.heap.size A (hs.flatten.map cb)) (h32 : ∀ h ∈ hs, h.length = 32) :
    Calls Tryd.prog 11 #[.int .u64 (n : Int), .slice A m c] w fun e w' => ∃ g A' c', e = .returned (.tuple #[.pointer (some ⟨g, 0, none⟩), .int .i64 0]) ∧ IsF w' w.heap.size g n hs.reverse A' c' ∧ Below w.heap.size w w' := by
  have HO := hid (OnesCount64_any w n hn)
  rw [he] at HO
  have HC := hid (Clone_any w (c := c) hl hm hr h32)
  clear hr he
  go_enter Tryd.func11, Tryd.ntmps11
  go_wp2_with fail
  refine HO.out.mono ?_
  rintro e w1 ⟨rfl, rfl⟩
  go_wp2_with fail
  refine HC.out.mono ?_
  rintro e w2 ⟨v, rfl, hown, hb⟩
  obtain ⟨A2, c2, rfl, _, _, _⟩ := own_form hown
  go_wp2
  go_ret2
  have hb2 := bx_alloc hb (.cells #[.int .u64 (n : Int), .slice A2 m c2] tFr)
  refine ⟨w2.heap.size, A2, c2, rfl, ⟨?_, ?_, hb.size, fun p hp => h32 p (List.mem_reverse.1 hp)⟩, hb2⟩
  · rw [List.length_reverse, hl]; exact Blk.new _ _ _
  · rw [List.length_reverse, List.reverse_reverse, hl]; exact own_keep hown (bx_alloc (Below.refl _ _) _)
end Go.Proofs.YtohkfnmggmlogaaDoor
