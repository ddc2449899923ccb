
/- A frontier's small functions. -/
import Derived.Test.YtohkfnmggmlogaaDoorOnes
import Derived.Test.YtohkfnmggmlogaaDoorChO
import Derived.Test.YtohkfnmggmlogaaDoorOwnT
import Derived.Laws.BitsAllLaws
import Derived.Laws.Bits128
namespace Go.Proofs.YtohkfnmggmlogaaDoor
open Go.RowKit
set_option linter.unusedVariables false
theorem wr_u64 {x : Nat} (h : x < 18446744073709551616) : IntKind.u64.wrap (x : Int) = (x : Int) := by simp only [IntKind.wrap, IntKind.bits, IntKind.signed]; simp; omega
theorem half_u64 {x d m : Nat} (hx : x < 18446744073709551616) (hm : m < 18446744073709551616) : bits BinOp.and IntKind.u64 ((x : Int) / (d : Int)) (m : Int) = ((x / d &&& m : Nat) : Int) := by
  rw [← Int.natCast_ediv, u64_and_nat _ _ (Nat.lt_of_le_of_lt (Nat.div_le_self _ _) hx) hm]
theorem oc_step {x d m y : Nat} (hx : x < 18446744073709551616) (hm : m < 18446744073709551616) (hy : y = (x / d &&& m) + (x &&& m)) (hl : y < 18446744073709551616) : IntKind.u64.wrap (bits BinOp.and IntKind.u64 ((x : Int) / (d : Int)) (m : Int) + bits BinOp.and IntKind.u64 (x : Int) (m : Int)) = (y : Int) := by
  rw [half_u64 hx hm, u64_and_nat _ _ hx hm, ← Int.natCast_add, ← hy, wr_u64 hl]
theorem oc_sum {x d : Nat} (hl : x + x / d < 18446744073709551616) : IntKind.u64.wrap ((x : Int) + (x : Int) / (d : Int)) = ((x + x / d : Nat) : Int) := by
  rw [← Int.natCast_ediv, ← Int.natCast_add, wr_u64 hl]
set_option maxRecDepth 10000 in
set_option maxHeartbeats 1000000 in
theorem OnesCount64_any (w : World) (x : Nat) (hx : x < 18446744073709551616) :
    Calls Tryd.prog 24 #[.int .u64 (x : Int)] w fun e w' => e = .returned (.int .i64 ((ones x : Nat) : Int)) ∧ w' = w := by
  obtain ⟨h1, h2, h2', h3⟩ := ones64 hx
  obtain ⟨h4, h5, h6, h7, h8⟩ := h3 _ _ _ rfl rfl rfl
  have e1 := oc_step (x := x) (d := 2) (m := 6148914691236517205) (y := oc1 x) hx (by decide) rfl h1
  have e2 := oc_step (x := oc1 x) (d := 4) (m := 3689348814741910323) (y := oc2 (oc1 x)) h1 (by decide) rfl h2
  have e3 : IntKind.u64.wrap ((oc2 (oc1 x) : Int) / ((16 : Nat) : Int) + (oc2 (oc1 x) : Int)) = ((oc2 (oc1 x) / 16 + oc2 (oc1 x) : Nat) : Int) := by
    rw [← Int.natCast_ediv, ← Int.natCast_add, wr_u64 h2']
  have e4 : bits BinOp.and IntKind.u64 ((oc2 (oc1 x) / 16 + oc2 (oc1 x) : Nat) : Int) ((1085102592571150095 : Nat) : Int) = ((oc3 (oc2 (oc1 x)) : Nat) : Int) := u64_and_nat _ _ h2' (by decide)
  have e5 := oc_sum (d := 256) h7
  have e6 := oc_sum (d := 65536) h6
  have e7 := oc_sum (d := 4294967296) (Nat.lt_trans h5 (by decide))
  generalize hz : oc3 (oc2 (oc1 x)) = z at *
  go_enter Tryd.func24, Tryd.ntmps24
  repeat go_step
  go_ret
  refine ⟨congrArg Ending.returned (congrArg (Value.int IntKind.i64) ?_), rfl⟩
  have k1 : IntKind.u64.wrap (bits BinOp.and IntKind.u64 ((x : Int) / 2) 6148914691236517205 + bits BinOp.and IntKind.u64 (x : Int) 6148914691236517205) = (oc1 x : Int) := e1
  have k2 : IntKind.u64.wrap (bits BinOp.and IntKind.u64 ((oc1 x : Int) / 4) 3689348814741910323 + bits BinOp.and IntKind.u64 (oc1 x : Int) 3689348814741910323) = (oc2 (oc1 x) : Int) := e2
  have k3 : IntKind.u64.wrap ((oc2 (oc1 x) : Int) / 16 + (oc2 (oc1 x) : Int)) = ((oc2 (oc1 x) / 16 + oc2 (oc1 x) : Nat) : Int) := e3
  have k4 : bits BinOp.and IntKind.u64 ((oc2 (oc1 x) / 16 + oc2 (oc1 x) : Nat) : Int) 1085102592571150095 = (z : Int) := e4
  have k5 : IntKind.u64.wrap ((z : Int) + (z : Int) / 256) = ((z + z / 256 : Nat) : Int) := e5
  rw [k1, k2, k3, k4, k5]
  clear e1 e2 e3 e4 e5 k1 k2 k3 k4 k5
  generalize z + z / 256 = a at *
  have k6 : IntKind.u64.wrap ((a : Int) + (a : Int) / 65536) = ((a + a / 65536 : Nat) : Int) := e6
  rw [k6]
  clear e6 k6
  generalize a + a / 65536 = b at *
  have k7 : IntKind.u64.wrap ((b : Int) + (b : Int) / 4294967296) = ((b + b / 4294967296 : Nat) : Int) := e7
  rw [k7]
  clear e7 k7
  generalize b + b / 4294967296 = c at *
  have k8 : wrap64 (c : Int) = (c : Int) := by simp only [wrap64]; omega
  rw [k8, i64_and127, ← h8]
  omega
abbrev tFr : Nat := 58
abbrev tHa : Nat := 40
/-- At block g lies a frontier of n entries, of these peaks, the last one first; all that is its own lies at or above B. -/
structure IsF (w : World) (B g n : Nat) (st : List (List UInt8)) (A : Option Addr) (c : Nat) : Prop where
  blk : Blk w g tFr #[.int .u64 (n : Int), .slice A st.length c]
  own : w.ownsRow B tHa 32 (.slice A st.length c) st.length (st.reverse.flatten.map cb)
  gB : B ≤ g
  ok : ∀ p ∈ st, p.length = 32
/-- A frontier's call: from one to another; what else there is, is as it was. -/
structure FGo (w w' : World) (B g n : Nat) (st : List (List UInt8)) (A : Option Addr) (c : Nat) (n' : Nat) (st' : List (List UInt8)) (A' : Option Addr) (c' : Nat) : Prop where
  isF : IsF w' B g n' st' A' c'
  below : Below B w w'
  keep : ∀ k, k < w.heap.size → k ≠ g → (Value.slice A st.length c).ownBlock ≠ some k → w'.heap[k]? = w.heap[k]? ∧ (Value.slice A' st'.length c').ownBlock ≠ some k
theorem IsF.below {w w' : World} {B g n : Nat} {st : List (List UInt8)} {A : Option Addr} {c : Nat} (h : IsF w B g n st A c) (hb : Below w.heap.size w w') : IsF w' B g n st A c := ⟨h.blk.below hb h.blk.lt, own_keep h.own hb, h.gB, h.ok⟩
set_option maxHeartbeats 400000 in
theorem New_any (w : World) : Calls Tryd.prog 21 #[] w fun e w' => ∃ g, e = .returned (.pointer (some ⟨g, 0, none⟩)) ∧ IsF w' w.heap.size g 0 [] none 0 ∧ Below w.heap.size w w' := by
  go_enter Tryd.func21, Tryd.ntmps21
  go_wp2
  go_ret
  exact ⟨_, rfl, ⟨Blk.new w tFr #[.int .u64 0, .slice none 0 0], World.ownsRow_nil _ _ _ _, Nat.le_refl _, (by simp)⟩, bx_alloc (Below.refl _ _) _⟩
set_option maxHeartbeats 400000 in
theorem Size_any (w : World) {B g n : Nat} {st : List (List UInt8)} {A : Option Addr} {c : Nat} (h : IsF w B g n st A c) :
    Calls Tryd.prog 13 #[.pointer (some ⟨g, 0, none⟩)] w fun e w' => e = .returned (.int .u64 (n : Int)) ∧ w' = w := by
  have c0 : w.cell? ⟨g, 0, none⟩ = some (.int .u64 (n : Int)) := h.blk.cell 0
  clear h
  go_enter Tryd.func13, Tryd.ntmps13
  go_wp2
  go_ret
  exact ⟨rfl, rfl⟩
set_option maxHeartbeats 400000 in
theorem Size_nil (w : World) :
    Calls Tryd.prog 13 #[.pointer none] w fun e w' => e = .returned (.int .u64 0) ∧ w' = w := by
  go_enter Tryd.func13, Tryd.ntmps13
  go_wp2
  go_ret
  exact ⟨rfl, rfl⟩
theorem eqNilH (w : World) (a : Option Addr) (n c n' c' : Nat) : (binOp .eql 23 (.slice a n c) (.slice none n' c')).run Tryd.prog w = .ok (.bool a.isNone) w := Lib.run_eql_slice_nil w _ _ a n c n' c' Tryd.underlying23
/-- A copy of a row of hashes. -/
theorem Clone_nil (w : World) (n c : Nat) :
    Calls Tryd.prog 25 #[.slice none n c] w fun e w' => e = .returned (.slice none 0 0) ∧ w' = w := by
  have qT := eqNilH
  go_enter Tryd.func25, Tryd.ntmps25
  go_wp2
  go_ret
  exact ⟨rfl, rfl⟩
set_option maxHeartbeats 1000000 in
theorem Clone_some (w : World) (a : Addr) {c n : Nat} {hs : List (List UInt8)} (hl : hs.length = n) (hn : n ≤ 1000000) (hr : Rd w w.heap.size (some a) (hs.flatten.map cb)) (h32 : ∀ h ∈ hs, h.length = 32) :
    Calls Tryd.prog 25 #[.slice (some a) n c] w fun e w' => ∃ v, e = .returned v ∧ w'.ownsRow w.heap.size tHa 32 v n (hs.flatten.map cb) ∧ Below w.heap.size w w' := by
  have qT := eqNilH
  have hown := own_empty w tHa 32
  have hlen : (hs.flatten.map cb).length = n * 32 := by rw [List.length_map, hs_len h32, hl]
  have hb1 := bx_alloc (Below.refl _ w) (.cells #[] tHa)
  have hrd := hr.below hb1
  have h63 : 0 + n ≤ maxLen := by unfold maxLen; omega
  have hby : (0 + n) * 32 ≤ 140737488355328 := by omega
  have hbs := hb1.size
  have HRD := hid hrd
  have HLN := hid hlen
  have HOW := hid hown
  clear hr hrd hlen hown
  go_enter Tryd.func25, Tryd.ntmps25
  go_wp2_with (at_builtin; refine wpList_app rfl _ _ _ rfl _ rfl _ _ _ rfl elHs HOW.out HRD.out HLN.out (one_cb _) h63 hby hbs ?_; intro v1 w1 hown1 hg1 hat1)
  go_ret
  refine ⟨_, rfl, ?_, own_below hb1 HOW.out hg1⟩
  rw [Nat.zero_add, List.nil_append] at hown1
  exact hown1
theorem Clone_any (w : World) {A : Option Addr} {c n : Nat} {hs : List (List UInt8)} (hl : hs.length = n) (hn : n ≤ 1000000) (hr : Rd w w.heap.size A (hs.flatten.map cb)) (h32 : ∀ h ∈ hs, h.length = 32) :
    Calls Tryd.prog 25 #[.slice A n c] w fun e w' => ∃ v, e = .returned v ∧ w'.ownsRow w.heap.size tHa 32 v n (hs.flatten.map cb) ∧ Below w.heap.size w w' := by
  cases A with
  | some a => exact Clone_some w a hl hn hr h32
  | none =>
    have h0 : hs.flatten.map cb = [] := by
      rcases hr with h | ⟨b, off, h, _⟩
      · exact h
      · cases h
    have hz : n = 0 := by
      have := hs_len h32
      have e : (hs.flatten.map cb).length = 0 := by rw [h0]; rfl
      rw [List.length_map] at e
      omega
    subst hz
    rw [h0]
    refine (Clone_nil w 0 c).mono ?_
    rintro e w' ⟨rfl, rfl⟩
    exact ⟨_, rfl, World.ownsRow_nil _ _ _ _, Below.refl _ _⟩
end Go.Proofs.YtohkfnmggmlogaaDoor
