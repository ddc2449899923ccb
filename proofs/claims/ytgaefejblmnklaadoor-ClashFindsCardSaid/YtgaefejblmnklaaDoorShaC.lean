
/- SHA-256: more. -/
import Derived.Test.YtgaefejblmnklaaDoorShaB
import Derived.ChangeKeysEq
namespace Go.Proofs.YtgaefejblmnklaaDoor
open Go.RowKit
set_option linter.unusedVariables false

abbrev tS : Nat := 75
theorem zeroS : ZeroT Tryd.prog 75 (.agg (List.replicate 8 (cw 0)).toArray) := zeroT_of (by kernel_rfl)
theorem aggS : AggT Tryd.prog 75 8 := aggT_of Tryd.underlying75 rfl (by kernel_rfl)
theorem aggSL {W : List Nat} (h : W.length = 8) : AggT Tryd.prog 75 (W.map cw).length := by rw [List.length_map, h]; exact aggS
theorem aggSS {W : List Nat} (h : W.length = 8) : AggT Tryd.prog 75 (W.map cw).toArray.size := by rw [List.size_toArray, List.length_map, h]; exact aggS
/-- What the two tables hold. -/
structure Laid (w : World) : Prop where
  b : ∀ j v, (beginL.map cw)[j]? = some v → w.cell? ⟨1, 0 + j, none⟩ = some v
  r : ∀ j v, (rootL.map cw)[j]? = some v → w.cell? ⟨2, 0 + j, none⟩ = some v
  hb : 1 < w.heap.size
  hr : 2 < w.heap.size
theorem Laid.below {w w' : World} (h : Laid w) (hb : Below w.heap.size w w') : Laid w' :=
  ⟨fun j v hv => (hb.cell (p := ⟨1, 0 + j, none⟩) h.hb).trans (h.b j v hv), fun j v hv => (hb.cell (p := ⟨2, 0 + j, none⟩) h.hr).trans (h.r j v hv), Nat.lt_of_lt_of_le h.hb hb.size, Nat.lt_of_lt_of_le h.hr hb.size⟩
theorem not_w {x : Nat} (h : x < 4294967296) : bits BinOp.xor IntKind.u32 IntKind.u32.max (x : Int) = ((4294967295 - x : Nat) : Int) := by
  rw [show IntKind.u32.max = ((4294967295 : Nat) : Int) from rfl, u32_xor_nat _ _ (by omega) h]
  have e : 4294967295 ^^^ x = 4294967295 - x := by
    have h1 : (~~~ (BitVec.ofNat 32 x)).toNat = 4294967295 - x := by rw [BitVec.toNat_not, BitVec.toNat_ofNat]; omega
    rw [← h1, ← BitVec.allOnes_xor, BitVec.toNat_xor, BitVec.toNat_allOnes, BitVec.toNat_ofNat, Nat.mod_eq_of_lt (by omega)]
  rw [e]
theorem rootL_length : rootL.length = 64 := rfl
theorem rounds_succ {s W : List Nat} (hW : W.length = 64) {k : Nat} (hk : k < 64) : roundsF s W (k + 1) = step1 (roundsF s W k) (rootL.getD k 0) (W.getD k 0) := by
  unfold roundsF
  rw [List.take_succ_eq_append_getElem (by rw [List.length_zip, rootL_length]; omega), List.foldl_append]
  rw [List.getD_eq_getElem?_getD, List.getElem?_eq_getElem (by rw [rootL_length]; exact hk)]
  simp [List.getD, hW, hk]
theorem step1_length {v : List Nat} (h : v.length = 8) (k w : Nat) : (step1 v k w).length = 8 := by
  match v, h with
  | [a, b, c, d, e, f, g, i], _ => rfl
theorem step1_lt {v : List Nat} (h : v.length = 8) (hl : Lt32 v) (k w : Nat) : Lt32 (step1 v k w) := by
  match v, h, hl with
  | [a, b, c, d, e, f, g, i], _, hl =>
    intro x hx
    simp only [step1, List.mem_cons, List.not_mem_nil, or_false] at hx
    rcases hx with rfl | rfl | rfl | rfl | rfl | rfl | rfl | rfl
    · exact Nat.mod_lt _ (by omega)
    · exact hl _ (by simp)
    · exact hl _ (by simp)
    · exact hl _ (by simp)
    · exact Nat.mod_lt _ (by omega)
    · exact hl _ (by simp)
    · exact hl _ (by simp)
    · exact hl _ (by simp)
theorem rounds_ok {s W : List Nat} (hs : s.length = 8) (hl : Lt32 s) (hW : W.length = 64) : ∀ k, k ≤ 64 → (roundsF s W k).length = 8 ∧ Lt32 (roundsF s W k)
  | 0, _ => ⟨hs, hl⟩
  | k + 1, h => by
    have ih := rounds_ok hs hl hW k (by omega)
    rw [rounds_succ hW (by omega)]
    exact ⟨step1_length ih.1 _ _, step1_lt ih.1 ih.2 _ _⟩
theorem list8 {v : List Nat} (h : v.length = 8) : ∃ a b c d e f g i, v = [a, b, c, d, e, f, g, i] := by
  match v, h with
  | [a, b, c, d, e, f, g, i], _ => exact ⟨a, b, c, d, e, f, g, i, rfl⟩
theorem not_n {x : Nat} (h : x < 4294967296) : (4294967295 : Int) - (x : Int) = ((4294967295 - x : Nat) : Int) := by omega
theorem cellsS_cell {w : World} {g : Nat} {l : List Nat} (h : Blk w g tS (l.map cw).toArray) {k : Nat} (hk : k < l.length) : w.cell? ⟨g, k, none⟩ = some (.int .u32 ((l.getD k 0 : Nat) : Int)) := by
  rw [h.cell]
  simp [hk, cw, List.getD]
/-- The first k are added. -/
def addTo (s v : List Nat) (k : Nat) : List Nat := (addF s v).take k ++ s.drop k
theorem addF_length {s v : List Nat} (hs : s.length = 8) (hv : v.length = 8) : (addF s v).length = 8 := by simp [addF, hs, hv]
theorem addTo_length {s v : List Nat} (hs : s.length = 8) (hv : v.length = 8) {k : Nat} (hk : k ≤ 8) : (addTo s v k).length = 8 := by simp [addTo, addF_length hs hv, hs]; omega
theorem addTo_get {s v : List Nat} (hs : s.length = 8) (hv : v.length = 8) {k : Nat} (hk : k < 8) : (addTo s v k).getD k 0 = s.getD k 0 := by
  simp [addTo, List.getD, List.getElem?_append, addF_length hs hv, Nat.min_eq_left (Nat.le_of_lt hk)]
theorem addTo_step {s v : List Nat} (hs : s.length = 8) (hv : v.length = 8) {k : Nat} (hk : k < 8) : (((addTo s v k).map cw).toArray).setIfInBounds k (.int .u32 (((s.getD k 0 + v.getD k 0) % 4294967296 : Nat) : Int)) = ((addTo s v (k + 1)).map cw).toArray := by
  have hl := addF_length hs hv
  have hval : (addF s v)[k]'(by omega) = (s.getD k 0 + v.getD k 0) % 4294967296 := by simp [addF, List.getD, hs, hv, hk]
  apply Array.toList_inj.1
  simp only [Array.toList_setIfInBounds]
  rw [show (Value.int IntKind.u32 (((s.getD k 0 + v.getD k 0) % 4294967296 : Nat) : Int)) = cw ((s.getD k 0 + v.getD k 0) % 4294967296) from rfl, ← List.map_set]
  congr 1
  unfold addTo
  rw [List.set_append_right _ _ (by simp [hl]; omega), List.take_succ_eq_append_getElem (by omega), hval]
  have : k - ((addF s v).take k).length = 0 := by simp [hl]; omega
  rw [this, List.drop_eq_getElem_cons (i := k) (l := s) (by omega), List.set_cons_zero, List.append_assoc]
  rfl
theorem addTo_all {s v : List Nat} (hs : s.length = 8) (hv : v.length = 8) : addTo s v 8 = addF s v := by
  unfold addTo
  rw [List.take_of_length_le (by rw [addF_length hs hv]; exact Nat.le_refl _), List.drop_of_length_le (by omega), List.append_nil]
theorem addF_lt (s v : List Nat) : Lt32 (addF s v) := by
  intro x hx
  obtain ⟨y, _, rfl⟩ := List.mem_map.1 hx
  exact Nat.mod_lt _ (by omega)
theorem run_index_w {P : Program} {t e n size : Nat} (ht : P.underlying t = some (.array n e)) (he : P.plainKey e = true) (hs : (P.info? e).map (·.size) = some 1) {cs : Array Value} {k : Nat} {v : Value} (hk : k < n) (hv : cs[k]? = some v) (w : World) :
    (Instr.index t (.agg cs) (.int .i64 (k : Int))).run P w = .ok v w := by
  cases hi : P.info? e with
  | none => simp [hi] at hs
  | some i =>
    have hs1 : i.size = 1 := by simpa [hi] using hs
    have hsz : (sizeOf e).run P w = .ok 1 w := by simp [sizeOf, typeInfo, hi, hs1]
    have h0 : (0 : Int) ≤ (k : Int) ∧ (k : Int) < n := by omega
    have hp := run_part_plain (P := P) he hv (w := w)
    simp only [Instr.index, asIntOf, Sem.run_bind, Sem.run_pure, Result.andThen_ok, run_underlying ht, if_pos h0, hsz, Int.toNat_natCast, Nat.mul_one, hp]
theorem splS {l : List Nat} (h : l.length = 8) : spl (Value.agg (List.replicate 8 (cw 0)).toArray).cells 0 (l.map cw) = (l.map cw).toArray := spl_whole (vs := (l.map cw).toArray) (by
  show (List.replicate 8 (cw 0)).toArray.size = _
  simp [h])
theorem splW {l : List Nat} (h : l.length = 64) : spl (Value.agg (wcells [])).cells 0 (l.map cw) = (l.map cw).toArray := spl_whole (vs := (l.map cw).toArray) (by
  show (wcells []).size = _
  simp [wcells, h])
set_option maxRecDepth 100000 in
set_option maxHeartbeats 8000000 in
theorem more_any (w : World) (hL : Laid w) {s : List Nat} (hs : s.length = 8) (hs32 : Lt32 s) {A : Option Addr} {c B' : Nat} {b : List UInt8} (hr : Rd w B' A (b.map cb)) (hB' : B' ≤ w.heap.size) (hb : b.length = 64) :
    Calls Tryd.prog 33 #[.agg (s.map cw).toArray, .slice A 64 c] w fun e w' => e = .returned (.agg ((moreF s b).map cw).toArray) ∧ Below w.heap.size w w' := by
  have HR := hid hr
  have HL := hid hL
  clear hr hL
  have hsl := sched_length b
  have hmf : moreF s b = addF s (roundsF s (sched b) 64) := rfl
  have hWlt : Lt32 (sched b) := wmore_lt (wfirst_lt b 16) 48
  obtain ⟨Ws, hWs⟩ : ∃ Ws, Ws = sched b := ⟨_, rfl⟩
  rw [← hWs] at hsl hmf hWlt
  have HWS := hid hWs
  have HMF := hid hmf
  clear hWs hmf
  go_enter Tryd.func33, Tryd.ntmps33
  go_wp2_with (first
    | (refine wpList_alloc rfl _ rfl zeroS ?_; intro g4 w4 hg4 hg4' hblk4 hb4)
    | fail)
  have hbox : Blk (w.alloc (.cells (s.map cw).toArray tS)) w.heap.size tS (s.map cw).toArray := Blk.new _ _ _
  have hs4 : w.heap.size < w4.heap.size := by have := hb4.size; simp at this; omega
  have hbox4 := hbox.below hb4 (by simp)
  have hb04 : Below w.heap.size w w4 := bx_trans (bx_alloc (Below.refl _ w) _) hb4
  have h4w : w.heap.size < g4 := by simp at hg4; omega
  clear hbox hb4 hg4
  refine (row_any w4 (HR.out.below (hb04.mono hB')) (by omega) hb).mono ?_
  rintro e w5 ⟨rfl, hb5⟩
  rw [← HWS.out]
  have hbox5 := hbox4.below hb5 (by omega)
  have hblk45 := hblk4.below hb5 hg4'
  have hb05 := bx_trans hb04 hb5
  have hL5 := HL.out.below hb05
  have hs5 := hb5.size
  clear hbox4 hblk4 hb5 hb04
  have hz8 : 0 + (s.map cw).toArray.size ≤ ((List.replicate 8 (cw 0)).toArray).size := by simp [hs]
  have hz64 : 0 + (Ws.map cw).toArray.size ≤ (wcells []).size := by simp [wcells, hsl]
  go_wp2_with (first
    | (refine wpList_alloc rfl _ rfl zeroW ?_; intro g5 w6 hg5 hg5' hblk5 hb6; have hbox6 := hbox5.below hb6 (by omega); have hblk46 := hblk45.below hb6 (by omega); have hb06 := bx_trans hb05 hb6)
    | (refine wpList_store_agg rfl _ _ _ rfl _ _ rfl _ rfl (aggWS hsl) hblk5 hz64 (one_cw _) ?_; intro w7 hput5; have hbox7 := hput5.other hbox6 (by omega); have hblk47 := hput5.other hblk46 (by omega); have hb07 := bx_put hb06 hput5 (by omega); have hs7 := hput5.size)
    | (refine wpList_load_agg rfl _ _ rfl _ _ rfl (s.map cw) (aggSL hs) (blk_cells hbox7) ?_)
    | (refine wpList_alloc rfl _ rfl zeroS ?_; intro g6 w8 hg6 hg6' hblk6 hb8; have hb08 := bx_trans hb07 hb8)
    | (refine wpList_store_agg rfl _ _ _ rfl _ _ rfl _ rfl (aggSS hs) hblk6 hz8 (one_cw _) ?_; intro w9 hput6; have hb09 := bx_put hb08 hput6 (by have := hbox7.lt; omega); have hL9 := HL.out.below hb09; have hroots := hL9.r)
    | (refine wpList_load_agg rfl _ _ rfl _ _ rfl (rootL.map cw) (aggWL rootL_length) hroots ?_))
  have hk6 := hput6.blk
  rw [splS hs] at hk6
  have hk5 := hput6.other ((hput5.blk).below hb8 (by have := hput5.blk.lt; omega)) (by have := hput5.blk.lt; omega)
  rw [splW hsl] at hk5
  have hk4 := hput6.other (hblk47.below hb8 hblk47.lt) (by have := hblk47.lt; omega)
  have hk2 := hput6.other (hbox7.below hb8 hbox7.lt) (by have := hbox7.lt; omega)
  have h56 : g5 < g6 := by have := hput5.blk.lt; omega
  have h46 : g4 < g6 := by have := hblk47.lt; omega
  have h26 : w.heap.size < g6 := by omega
  clear hroots hL9 hput6 hb8 hblk6 hput5 hblk47 hbox7 hb07 hb08 hb06 hb6 hbox6 hblk46 hblk5 hL5 hb05 hblk45 hbox5 hg6' hg6 hs7 hg5' hg5 hs5 hg4' hs4 hz64
  go_loopw [18] (fun j wr => ∃ k : Nat, k ≤ 64 ∧ j = .int .i64 k ∧ Blk wr w.heap.size tS (s.map cw).toArray ∧ Blk wr g4 tS (List.replicate 8 (cw 0)).toArray ∧ Blk wr g5 tW (Ws.map cw).toArray ∧ Blk wr g6 tS ((roundsF s Ws k).map cw).toArray ∧ Below w.heap.size w wr) (fun j _ => 64 - (intOf j).toNat)
  case atStart => exact ⟨0, by omega, rfl, hk2, hk4, hk5, hk6, hb09⟩
  case round =>
    clear hk2 hk4 hk5 hk6 hb09
    obtain ⟨k, hk, rfl, hk2, hk4, hk5, hk6, hbr⟩ := hrel
    by_cases hltk : k < 64
    · obtain ⟨hv8, hv32⟩ := rounds_ok hs hs32 hsl k (by omega)
      have hsucc := rounds_succ (s := s) hsl hltk
      have hri : (rootL.map cw).toArray[k]? = some (.int .u32 ((rootL.getD k 0 : Nat) : Int)) := by
        simp [List.getD, cw, List.getElem?_eq_getElem (show k < rootL.length by rw [rootL_length]; exact hltk)]
      have hix := run_index_w (P := Tryd.prog) (size := 1) Tryd.underlying83 (by kernel_rfl) (by kernel_rfl) hltk hri wr
      have cW : wr.cell? ⟨g5, k, none⟩ = some (.int .u32 ((Ws.getD k 0 : Nat) : Int)) := by
        rw [hk5.cell]
        simp [List.getD, cw, hsl, hltk]
      have hk32 : (k : Int) < 64 := by omega
      generalize roundsF s Ws k = V at *
      obtain ⟨va, vb, vc, vd, ve, vf, vg, vh, rfl⟩ := list8 hv8
      have HSU := hid hsucc
      clear hsucc hv8
      have hva32 : va < 4294967296 := hv32 _ (by simp)
      have hvb32 : vb < 4294967296 := hv32 _ (by simp)
      have hvc32 : vc < 4294967296 := hv32 _ (by simp)
      have hvd32 : vd < 4294967296 := hv32 _ (by simp)
      have hve32 : ve < 4294967296 := hv32 _ (by simp)
      have hvf32 : vf < 4294967296 := hv32 _ (by simp)
      have hvg32 : vg < 4294967296 := hv32 _ (by simp)
      have hvh32 : vh < 4294967296 := hv32 _ (by simp)
      clear hv32
      have c0 : wr.cell? ⟨g6, 0, none⟩ = some (.int .u32 (va : Int)) := hk6.cell 0
      have c1 : wr.cell? ⟨g6, 1, none⟩ = some (.int .u32 (vb : Int)) := hk6.cell 1
      have c2 : wr.cell? ⟨g6, 2, none⟩ = some (.int .u32 (vc : Int)) := hk6.cell 2
      have c3 : wr.cell? ⟨g6, 3, none⟩ = some (.int .u32 (vd : Int)) := hk6.cell 3
      have c4 : wr.cell? ⟨g6, 4, none⟩ = some (.int .u32 (ve : Int)) := hk6.cell 4
      have c5 : wr.cell? ⟨g6, 5, none⟩ = some (.int .u32 (vf : Int)) := hk6.cell 5
      have c6 : wr.cell? ⟨g6, 6, none⟩ = some (.int .u32 (vg : Int)) := hk6.cell 6
      have c7 : wr.cell? ⟨g6, 7, none⟩ = some (.int .u32 (vh : Int)) := hk6.cell 7
      generalize rootL.getD k 0 = rk at *
      generalize Ws.getD k 0 = wk at *
      have hg6 := hk6.lt
      have hg5 := hk5.lt
      obtain ⟨s1, hs1⟩ : ∃ s1 : Nat, s1 = rot ve 6 ^^^ rot ve 11 := ⟨_, rfl⟩
      have hs1l : s1 < 4294967296 := by rw [hs1]; exact xr_lt32 (rot_lt hve32) (rot_lt hve32)
      have hb1 : bs1 ve = s1 ^^^ rot ve 25 := by rw [hs1]; rfl
      obtain ⟨s2, hs2⟩ : ∃ s2 : Nat, s2 = rot va 2 ^^^ rot va 13 := ⟨_, rfl⟩
      have hs2l : s2 < 4294967296 := by rw [hs2]; exact xr_lt32 (rot_lt hva32) (rot_lt hva32)
      have hb0 : bs0 va = s2 ^^^ rot va 22 := by rw [hs2]; rfl
      obtain ⟨q1, hq1⟩ : ∃ q1 : Nat, q1 = (vh + bs1 ve) % 4294967296 := ⟨_, rfl⟩
      obtain ⟨q2, hq2⟩ : ∃ q2 : Nat, q2 = (q1 + chF ve vf vg) % 4294967296 := ⟨_, rfl⟩
      obtain ⟨q3, hq3⟩ : ∃ q3 : Nat, q3 = (q2 + rk) % 4294967296 := ⟨_, rfl⟩
      obtain ⟨vt, hvt⟩ : ∃ vt : Nat, vt = (q3 + wk) % 4294967296 := ⟨_, rfl⟩
      obtain ⟨vu, hvu⟩ : ∃ vu : Nat, vu = (bs0 va + majF va vb vc) % 4294967296 := ⟨_, rfl⟩
      have htF : tF ve vf vg vh rk wk = vt := by unfold tF; omega
      have huF : uF va vb vc = vu := by rw [hvu]; rfl
      obtain ⟨n0, hn0⟩ : ∃ n0 : Nat, n0 = (vt + vu) % 4294967296 := ⟨_, rfl⟩
      obtain ⟨n4, hn4⟩ : ∃ n4 : Nat, n4 = (vd + vt) % 4294967296 := ⟨_, rfl⟩
      have hstep : step1 [va, vb, vc, vd, ve, vf, vg, vh] rk wk = [n0, va, vb, vc, n4, ve, vf, vg] := by simp only [step1, htF, huF, hn0, hn4]
      have hw0 : IntKind.u32.wrap ((vt : Int) + (vu : Int)) = (n0 : Int) := add_w rfl rfl hn0
      have hw4 : IntKind.u32.wrap ((vd : Int) + (vt : Int)) = (n4 : Int) := add_w rfl rfl hn4
      have HS1 := hid hs1
      have HB1 := hid hb1
      have HS2 := hid hs2
      have HB0 := hid hb0
      have HQ1 := hid hq1
      have HQ2 := hid hq2
      have HQ3 := hid hq3
      have HT := hid hvt
      have HU := hid hvu
      have HW0 := hid hw0
      have HW4 := hid hw4
      have HST := hid hstep
      clear hs1 hb1 hs2 hb0 hq1 hq2 hq3 hvt hvu htF huF hn0 hn4 hw0 hw4 hstep
      go_wp2_with fail
      refine wp_flow (by kernel_rfl) [0, 1, 0, 4, 3, 31] 6 [false, false, false, false, false, false, false, false, false, true, true, false, false, false, false, false, false, false, false, false, false, false, true, true, true, true] (by kernel_rfl) (by decide) (by kernel_rfl) [FP.eq (.pointer (some ⟨g6, 4, none⟩)), FP.eq (.int .u32 (ve : Int)), FP.eq (.pointer (some ⟨g6, 0, none⟩)), FP.eq (.int .u32 (va : Int)), FP.eq (.int .u32 (ve : Int)), FP.eq (.int .u32 (va : Int))] ?_ ?_
      · refine allFrom_cons ?_ ?_
        · intro a_ w_ hk_
          have h6 : a_.eval (.tmp 6) = .pointer (some ⟨g6, 0, none⟩) := hk_.old 6 (by kernel_rfl)
          have hx_ := hk_.ext
          clear hk_
          refine flow_plain rfl ?_
          unfold gives
          have hc_ : ∀ v, a_.eval (.const v) = v := fun _ => rfl
          have hn_ : ∀ f, a_.eval (.func f) = .func (.func f) #[] #[] := fun _ => rfl
          generalize a_.eval = ρ_ at *
          go_simp
          exact ⟨Below.refl _ _, rfl⟩
        refine allFrom_cons ?_ ?_
        · intro a_ w_ hk_
          have h22 : a_.eval (.tmp 22) = (.pointer (some ⟨g6, 4, none⟩)) := hk_.got 0 22 _ (by kernel_rfl) rfl rfl
          have hx_ := hk_.ext
          clear hk_
          refine flow_plain rfl ?_
          unfold gives
          have hc_ : ∀ v, a_.eval (.const v) = v := fun _ => rfl
          have hn_ : ∀ f, a_.eval (.func f) = .func (.func f) #[] #[] := fun _ => rfl
          have hcell := (hx_.cell (p := ⟨g6, 4, none⟩) hg6).trans c4
          generalize a_.eval = ρ_ at *
          go_simp
          exact ⟨Below.refl _ _, rfl⟩
        refine allFrom_cons ?_ ?_
        · intro a_ w_ hk_
          have h6 : a_.eval (.tmp 6) = .pointer (some ⟨g6, 0, none⟩) := hk_.old 6 (by kernel_rfl)
          have hx_ := hk_.ext
          clear hk_
          refine flow_plain rfl ?_
          unfold gives
          have hc_ : ∀ v, a_.eval (.const v) = v := fun _ => rfl
          have hn_ : ∀ f, a_.eval (.func f) = .func (.func f) #[] #[] := fun _ => rfl
          generalize a_.eval = ρ_ at *
          go_simp
          exact ⟨Below.refl _ _, rfl⟩
        refine allFrom_cons ?_ ?_
        · intro a_ w_ hk_
          have h24 : a_.eval (.tmp 24) = (.pointer (some ⟨g6, 0, none⟩)) := hk_.got 2 24 _ (by kernel_rfl) rfl rfl
          have hx_ := hk_.ext
          clear hk_
          refine flow_plain rfl ?_
          unfold gives
          have hc_ : ∀ v, a_.eval (.const v) = v := fun _ => rfl
          have hn_ : ∀ f, a_.eval (.func f) = .func (.func f) #[] #[] := fun _ => rfl
          have hcell := (hx_.cell (p := ⟨g6, 0, none⟩) hg6).trans c0
          generalize a_.eval = ρ_ at *
          go_simp
          exact ⟨Below.refl _ _, rfl⟩
        refine allFrom_cons ?_ ?_
        · intro a_ w_ hk_
          have h23 : a_.eval (.tmp 23) = (.int .u32 (ve : Int)) := hk_.got 1 23 _ (by kernel_rfl) rfl rfl
          have hx_ := hk_.ext
          clear hk_
          refine flow_plain rfl ?_
          exact gives_assign rfl ⟨Below.refl _ _, h23⟩
        refine allFrom_cons ?_ ?_
        · intro a_ w_ hk_
          have h25 : a_.eval (.tmp 25) = (.int .u32 (va : Int)) := hk_.got 3 25 _ (by kernel_rfl) rfl rfl
          have hx_ := hk_.ext
          clear hk_
          refine flow_plain rfl ?_
          exact gives_assign rfl ⟨Below.refl _ _, h25⟩
        exact allFrom_nil
      intro f_ w_ hx_ hf_
      have h22 : f_ 22 = (.pointer (some ⟨g6, 4, none⟩)) := hf_ 0 22 _ (by decide) rfl rfl
      have h23 : f_ 23 = (.int .u32 (ve : Int)) := hf_ 1 23 _ (by decide) rfl rfl
      have h24 : f_ 24 = (.pointer (some ⟨g6, 0, none⟩)) := hf_ 2 24 _ (by decide) rfl rfl
      have h25 : f_ 25 = (.int .u32 (va : Int)) := hf_ 3 25 _ (by decide) rfl rfl
      have h9 : f_ 9 = (.int .u32 (ve : Int)) := hf_ 4 9 _ (by decide) rfl rfl
      have h10 : f_ 10 = (.int .u32 (va : Int)) := hf_ 5 10 _ (by decide) rfl rfl
      simp only [mix, List.drop_succ_cons, List.drop_zero, h22, h23, h24, h25, h9, h10]
      clear h22 h23 h24 h25 h9 h10
      clear hf_
      have hA6 := hk6.below hx_ hk6.lt
      have hA5 := hk5.below hx_ hk5.lt
      have hA4 := hk4.below hx_ hk4.lt
      have hA2 := hk2.below hx_ hk2.lt
      have hBA := bx_trans hbr hx_
      have C0 := (hx_.cell (p := ⟨g6, 0, none⟩) hg6).trans c0
      have C1 := (hx_.cell (p := ⟨g6, 1, none⟩) hg6).trans c1
      have C2 := (hx_.cell (p := ⟨g6, 2, none⟩) hg6).trans c2
      have C3 := (hx_.cell (p := ⟨g6, 3, none⟩) hg6).trans c3
      have C4 := (hx_.cell (p := ⟨g6, 4, none⟩) hg6).trans c4
      have C5 := (hx_.cell (p := ⟨g6, 5, none⟩) hg6).trans c5
      have C6 := (hx_.cell (p := ⟨g6, 6, none⟩) hg6).trans c6
      have C7 := (hx_.cell (p := ⟨g6, 7, none⟩) hg6).trans c7
      have CW := (hx_.cell (p := ⟨g5, k, none⟩) hg5).trans cW
      clear hk6 hk5 hk4 hk2 hbr hx_ hg6 hg5 cW c0 c1 c2 c3 c4 c5 c6 c7
      generalize w_ = wa at *
      have hk6 := hA6
      have hk5 := hA5
      have hk4 := hA4
      have hk2 := hA2
      have hbr := hBA
      have hg6 := hk6.lt
      have hg5 := hk5.lt
      have cW := CW
      have c0 := C0
      have c1 := C1
      have c2 := C2
      have c3 := C3
      have c4 := C4
      have c5 := C5
      have c6 := C6
      have c7 := C7
      clear hA6 hA5 hA4 hA2 hBA CW C0 C1 C2 C3 C4 C5 C6 C7
      generalize wa = wr at *
      go_wp2_with fail
      refine wp_flow (by kernel_rfl) [0, 1, 0, 4, 0, 28, 60, 0, 188, 508, 1023, 0, 0, 4096, 14336, 0, 32768, 0, 131072, 491520, 1046528, 2097151, 0, 8388607, 0, 16777216, 50331648, 134217727, 268435455] 29 [false, false, false, false, false, false, false, false, false, false, false, true, false, false, false, false, false, false, false, false, false, false, false, false, false, false, true, true, true, true, true, true, true, true, true, true, true, true, true, true, true, true, true, true, true, true, true, true, true, true, true, true, true, true] (by kernel_rfl) (by decide) (by kernel_rfl) [FP.eq (.pointer (some ⟨g6, 7, none⟩)), FP.eq (.int .u32 (vh : Int)), FP.eq (.int .u32 (ve : Int)), FP.eq (.int .u32 ((rot ve 6 : Nat) : Int)), FP.eq (.int .u32 (ve : Int)), FP.eq (.int .u32 ((rot ve 11 : Nat) : Int)), FP.eq (.int .u32 (s1 : Int)), FP.eq (.int .u32 (ve : Int)), FP.eq (.int .u32 ((rot ve 25 : Nat) : Int)), FP.eq (.int .u32 ((bs1 ve : Nat) : Int)), FP.eq (.int .u32 (q1 : Int)), FP.eq (.int .u32 (ve : Int)), FP.eq (.pointer (some ⟨g6, 5, none⟩)), FP.eq (.int .u32 (vf : Int)), FP.eq (.int .u32 ((ve &&& vf : Nat) : Int)), FP.eq (.int .u32 (ve : Int)), FP.eq (.int .u32 ((4294967295 - ve : Nat) : Int)), FP.eq (.pointer (some ⟨g6, 6, none⟩)), FP.eq (.int .u32 (vg : Int)), FP.eq (.int .u32 (((4294967295 - ve) &&& vg : Nat) : Int)), FP.eq (.int .u32 ((chF ve vf vg : Nat) : Int)), FP.eq (.int .u32 (q2 : Int)), FP.eq (.int .u32 (rk : Int)), FP.eq (.int .u32 (q3 : Int)), FP.eq (.int .i64 k), FP.eq (.pointer (some ⟨g5, k, none⟩)), FP.eq (.int .u32 (wk : Int)), FP.eq (.int .u32 (vt : Int)), FP.eq (.int .u32 (vt : Int))] ?_ ?_
      · refine allFrom_cons ?_ ?_
        · intro a_ w_ hk_
          have h6 : a_.eval (.tmp 6) = .pointer (some ⟨g6, 0, none⟩) := hk_.old 6 (by kernel_rfl)
          have hx_ := hk_.ext
          clear hk_
          refine flow_plain rfl ?_
          unfold gives
          have hc_ : ∀ v, a_.eval (.const v) = v := fun _ => rfl
          have hn_ : ∀ f, a_.eval (.func f) = .func (.func f) #[] #[] := fun _ => rfl
          generalize a_.eval = ρ_ at *
          go_simp
          exact ⟨Below.refl _ _, rfl⟩
        refine allFrom_cons ?_ ?_
        · intro a_ w_ hk_
          have h26 : a_.eval (.tmp 26) = (.pointer (some ⟨g6, 7, none⟩)) := hk_.got 0 26 _ (by kernel_rfl) rfl rfl
          have hx_ := hk_.ext
          clear hk_
          refine flow_plain rfl ?_
          unfold gives
          have hc_ : ∀ v, a_.eval (.const v) = v := fun _ => rfl
          have hn_ : ∀ f, a_.eval (.func f) = .func (.func f) #[] #[] := fun _ => rfl
          have hcell := (hx_.cell (p := ⟨g6, 7, none⟩) hg6).trans c7
          generalize a_.eval = ρ_ at *
          go_simp
          exact ⟨Below.refl _ _, rfl⟩
        refine allFrom_cons ?_ ?_
        · intro a_ w_ hk_
          have h9 : a_.eval (.tmp 9) = .int .u32 (ve : Int) := hk_.old 9 (by kernel_rfl)
          have hx_ := hk_.ext
          clear hk_
          refine flow_plain rfl ?_
          exact gives_move rfl ⟨Below.refl _ _, h9⟩
        refine allFrom_cons ?_ ?_
        · intro a_ w_ hk_
          have h28 : a_.eval (.tmp 28) = (.int .u32 (ve : Int)) := hk_.got 2 28 _ (by kernel_rfl) rfl rfl
          have hx_ := hk_.ext
          clear hk_
          refine flow_plain rfl ?_
          unfold gives
          have hc_ : ∀ v, a_.eval (.const v) = v := fun _ => rfl
          have hn_ : ∀ f, a_.eval (.func f) = .func (.func f) #[] #[] := fun _ => rfl
          generalize a_.eval = ρ_ at *
          go_simp
          exact (down_any _ ve 6 hve32 (by omega) (by omega)).mono fun e w' ⟨h1, h2⟩ => ⟨_, h1, by subst h2; exact Below.refl _ _, rfl⟩
        refine allFrom_cons ?_ ?_
        · intro a_ w_ hk_
          have h9 : a_.eval (.tmp 9) = .int .u32 (ve : Int) := hk_.old 9 (by kernel_rfl)
          have hx_ := hk_.ext
          clear hk_
          refine flow_plain rfl ?_
          exact gives_move rfl ⟨Below.refl _ _, h9⟩
        refine allFrom_cons ?_ ?_
        · intro a_ w_ hk_
          have h30 : a_.eval (.tmp 30) = (.int .u32 (ve : Int)) := hk_.got 4 30 _ (by kernel_rfl) rfl rfl
          have hx_ := hk_.ext
          clear hk_
          refine flow_plain rfl ?_
          unfold gives
          have hc_ : ∀ v, a_.eval (.const v) = v := fun _ => rfl
          have hn_ : ∀ f, a_.eval (.func f) = .func (.func f) #[] #[] := fun _ => rfl
          generalize a_.eval = ρ_ at *
          go_simp
          exact (down_any _ ve 11 hve32 (by omega) (by omega)).mono fun e w' ⟨h1, h2⟩ => ⟨_, h1, by subst h2; exact Below.refl _ _, rfl⟩
        refine allFrom_cons ?_ ?_
        · intro a_ w_ hk_
          have h29 : a_.eval (.tmp 29) = (.int .u32 ((rot ve 6 : Nat) : Int)) := hk_.got 3 29 _ (by kernel_rfl) rfl rfl
          have h31 : a_.eval (.tmp 31) = (.int .u32 ((rot ve 11 : Nat) : Int)) := hk_.got 5 31 _ (by kernel_rfl) rfl rfl
          have hx_ := hk_.ext
          clear hk_
          refine flow_plain rfl ?_
          unfold gives
          have hc_ : ∀ v, a_.eval (.const v) = v := fun _ => rfl
          have hn_ : ∀ f, a_.eval (.func f) = .func (.func f) #[] #[] := fun _ => rfl
          generalize a_.eval = ρ_ at *
          go_simp
          exact ⟨Below.refl _ _, congrArg (Value.int _) (xor_w rfl rfl HS1.out (rot_lt hve32) (rot_lt hve32))⟩
        refine allFrom_cons ?_ ?_
        · intro a_ w_ hk_
          have h9 : a_.eval (.tmp 9) = .int .u32 (ve : Int) := hk_.old 9 (by kernel_rfl)
          have hx_ := hk_.ext
          clear hk_
          refine flow_plain rfl ?_
          exact gives_move rfl ⟨Below.refl _ _, h9⟩
        refine allFrom_cons ?_ ?_
        · intro a_ w_ hk_
          have h33 : a_.eval (.tmp 33) = (.int .u32 (ve : Int)) := hk_.got 7 33 _ (by kernel_rfl) rfl rfl
          have hx_ := hk_.ext
          clear hk_
          refine flow_plain rfl ?_
          unfold gives
          have hc_ : ∀ v, a_.eval (.const v) = v := fun _ => rfl
          have hn_ : ∀ f, a_.eval (.func f) = .func (.func f) #[] #[] := fun _ => rfl
          generalize a_.eval = ρ_ at *
          go_simp
          exact (down_any _ ve 25 hve32 (by omega) (by omega)).mono fun e w' ⟨h1, h2⟩ => ⟨_, h1, by subst h2; exact Below.refl _ _, rfl⟩
        refine allFrom_cons ?_ ?_
        · intro a_ w_ hk_
          have h32 : a_.eval (.tmp 32) = (.int .u32 (s1 : Int)) := hk_.got 6 32 _ (by kernel_rfl) rfl rfl
          have h34 : a_.eval (.tmp 34) = (.int .u32 ((rot ve 25 : Nat) : Int)) := hk_.got 8 34 _ (by kernel_rfl) rfl rfl
          have hx_ := hk_.ext
          clear hk_
          refine flow_plain rfl ?_
          unfold gives
          have hc_ : ∀ v, a_.eval (.const v) = v := fun _ => rfl
          have hn_ : ∀ f, a_.eval (.func f) = .func (.func f) #[] #[] := fun _ => rfl
          generalize a_.eval = ρ_ at *
          go_simp
          exact ⟨Below.refl _ _, congrArg (Value.int _) (xor_w rfl rfl HB1.out hs1l (rot_lt hve32))⟩
        refine allFrom_cons ?_ ?_
        · intro a_ w_ hk_
          have h27 : a_.eval (.tmp 27) = (.int .u32 (vh : Int)) := hk_.got 1 27 _ (by kernel_rfl) rfl rfl
          have h35 : a_.eval (.tmp 35) = (.int .u32 ((bs1 ve : Nat) : Int)) := hk_.got 9 35 _ (by kernel_rfl) rfl rfl
          have hx_ := hk_.ext
          clear hk_
          refine flow_plain rfl ?_
          unfold gives
          have hc_ : ∀ v, a_.eval (.const v) = v := fun _ => rfl
          have hn_ : ∀ f, a_.eval (.func f) = .func (.func f) #[] #[] := fun _ => rfl
          generalize a_.eval = ρ_ at *
          go_simp
          exact ⟨Below.refl _ _, congrArg (Value.int _) (add_w rfl rfl HQ1.out)⟩
        refine allFrom_cons ?_ ?_
        · intro a_ w_ hk_
          have h9 : a_.eval (.tmp 9) = .int .u32 (ve : Int) := hk_.old 9 (by kernel_rfl)
          have hx_ := hk_.ext
          clear hk_
          refine flow_plain rfl ?_
          exact gives_move rfl ⟨Below.refl _ _, h9⟩
        refine allFrom_cons ?_ ?_
        · intro a_ w_ hk_
          have h6 : a_.eval (.tmp 6) = .pointer (some ⟨g6, 0, none⟩) := hk_.old 6 (by kernel_rfl)
          have hx_ := hk_.ext
          clear hk_
          refine flow_plain rfl ?_
          unfold gives
          have hc_ : ∀ v, a_.eval (.const v) = v := fun _ => rfl
          have hn_ : ∀ f, a_.eval (.func f) = .func (.func f) #[] #[] := fun _ => rfl
          generalize a_.eval = ρ_ at *
          go_simp
          exact ⟨Below.refl _ _, rfl⟩
        refine allFrom_cons ?_ ?_
        · intro a_ w_ hk_
          have h38 : a_.eval (.tmp 38) = (.pointer (some ⟨g6, 5, none⟩)) := hk_.got 12 38 _ (by kernel_rfl) rfl rfl
          have hx_ := hk_.ext
          clear hk_
          refine flow_plain rfl ?_
          unfold gives
          have hc_ : ∀ v, a_.eval (.const v) = v := fun _ => rfl
          have hn_ : ∀ f, a_.eval (.func f) = .func (.func f) #[] #[] := fun _ => rfl
          have hcell := (hx_.cell (p := ⟨g6, 5, none⟩) hg6).trans c5
          generalize a_.eval = ρ_ at *
          go_simp
          exact ⟨Below.refl _ _, rfl⟩
        refine allFrom_cons ?_ ?_
        · intro a_ w_ hk_
          have h37 : a_.eval (.tmp 37) = (.int .u32 (ve : Int)) := hk_.got 11 37 _ (by kernel_rfl) rfl rfl
          have h39 : a_.eval (.tmp 39) = (.int .u32 (vf : Int)) := hk_.got 13 39 _ (by kernel_rfl) rfl rfl
          have hx_ := hk_.ext
          clear hk_
          refine flow_plain rfl ?_
          unfold gives
          have hc_ : ∀ v, a_.eval (.const v) = v := fun _ => rfl
          have hn_ : ∀ f, a_.eval (.func f) = .func (.func f) #[] #[] := fun _ => rfl
          generalize a_.eval = ρ_ at *
          go_simp
          exact ⟨Below.refl _ _, congrArg (Value.int _) (and_w rfl rfl rfl hve32 hvf32)⟩
        refine allFrom_cons ?_ ?_
        · intro a_ w_ hk_
          have h9 : a_.eval (.tmp 9) = .int .u32 (ve : Int) := hk_.old 9 (by kernel_rfl)
          have hx_ := hk_.ext
          clear hk_
          refine flow_plain rfl ?_
          exact gives_move rfl ⟨Below.refl _ _, h9⟩
        refine allFrom_cons ?_ ?_
        · intro a_ w_ hk_
          have h41 : a_.eval (.tmp 41) = (.int .u32 (ve : Int)) := hk_.got 15 41 _ (by kernel_rfl) rfl rfl
          have hx_ := hk_.ext
          clear hk_
          refine flow_plain rfl ?_
          unfold gives
          have hc_ : ∀ v, a_.eval (.const v) = v := fun _ => rfl
          have hn_ : ∀ f, a_.eval (.func f) = .func (.func f) #[] #[] := fun _ => rfl
          generalize a_.eval = ρ_ at *
          go_simp
          exact ⟨Below.refl _ _, congrArg (Value.int _) (not_w hve32)⟩
        refine allFrom_cons ?_ ?_
        · intro a_ w_ hk_
          have h6 : a_.eval (.tmp 6) = .pointer (some ⟨g6, 0, none⟩) := hk_.old 6 (by kernel_rfl)
          have hx_ := hk_.ext
          clear hk_
          refine flow_plain rfl ?_
          unfold gives
          have hc_ : ∀ v, a_.eval (.const v) = v := fun _ => rfl
          have hn_ : ∀ f, a_.eval (.func f) = .func (.func f) #[] #[] := fun _ => rfl
          generalize a_.eval = ρ_ at *
          go_simp
          exact ⟨Below.refl _ _, rfl⟩
        refine allFrom_cons ?_ ?_
        · intro a_ w_ hk_
          have h43 : a_.eval (.tmp 43) = (.pointer (some ⟨g6, 6, none⟩)) := hk_.got 17 43 _ (by kernel_rfl) rfl rfl
          have hx_ := hk_.ext
          clear hk_
          refine flow_plain rfl ?_
          unfold gives
          have hc_ : ∀ v, a_.eval (.const v) = v := fun _ => rfl
          have hn_ : ∀ f, a_.eval (.func f) = .func (.func f) #[] #[] := fun _ => rfl
          have hcell := (hx_.cell (p := ⟨g6, 6, none⟩) hg6).trans c6
          generalize a_.eval = ρ_ at *
          go_simp
          exact ⟨Below.refl _ _, rfl⟩
        refine allFrom_cons ?_ ?_
        · intro a_ w_ hk_
          have h42 : a_.eval (.tmp 42) = (.int .u32 ((4294967295 - ve : Nat) : Int)) := hk_.got 16 42 _ (by kernel_rfl) rfl rfl
          have h44 : a_.eval (.tmp 44) = (.int .u32 (vg : Int)) := hk_.got 18 44 _ (by kernel_rfl) rfl rfl
          have hx_ := hk_.ext
          clear hk_
          refine flow_plain rfl ?_
          unfold gives
          have hc_ : ∀ v, a_.eval (.const v) = v := fun _ => rfl
          have hn_ : ∀ f, a_.eval (.func f) = .func (.func f) #[] #[] := fun _ => rfl
          generalize a_.eval = ρ_ at *
          go_simp
          exact ⟨Below.refl _ _, congrArg (Value.int _) (and_w rfl rfl rfl (by omega) hvg32)⟩
        refine allFrom_cons ?_ ?_
        · intro a_ w_ hk_
          have h40 : a_.eval (.tmp 40) = (.int .u32 ((ve &&& vf : Nat) : Int)) := hk_.got 14 40 _ (by kernel_rfl) rfl rfl
          have h45 : a_.eval (.tmp 45) = (.int .u32 (((4294967295 - ve) &&& vg : Nat) : Int)) := hk_.got 19 45 _ (by kernel_rfl) rfl rfl
          have hx_ := hk_.ext
          clear hk_
          refine flow_plain rfl ?_
          unfold gives
          have hc_ : ∀ v, a_.eval (.const v) = v := fun _ => rfl
          have hn_ : ∀ f, a_.eval (.func f) = .func (.func f) #[] #[] := fun _ => rfl
          generalize a_.eval = ρ_ at *
          go_simp
          exact ⟨Below.refl _ _, congrArg (Value.int _) (xor_w rfl rfl rfl (and_lt32 hve32) (and_lt32 (by omega)))⟩
        refine allFrom_cons ?_ ?_
        · intro a_ w_ hk_
          have h36 : a_.eval (.tmp 36) = (.int .u32 (q1 : Int)) := hk_.got 10 36 _ (by kernel_rfl) rfl rfl
          have h46 : a_.eval (.tmp 46) = (.int .u32 ((chF ve vf vg : Nat) : Int)) := hk_.got 20 46 _ (by kernel_rfl) rfl rfl
          have hx_ := hk_.ext
          clear hk_
          refine flow_plain rfl ?_
          unfold gives
          have hc_ : ∀ v, a_.eval (.const v) = v := fun _ => rfl
          have hn_ : ∀ f, a_.eval (.func f) = .func (.func f) #[] #[] := fun _ => rfl
          generalize a_.eval = ρ_ at *
          go_simp
          exact ⟨Below.refl _ _, congrArg (Value.int _) (add_w rfl rfl HQ2.out)⟩
        refine allFrom_cons ?_ ?_
        · intro a_ w_ hk_
          have h8 : a_.eval (.tmp 8) = .int .u32 (rk : Int) := hk_.old 8 (by kernel_rfl)
          have hx_ := hk_.ext
          clear hk_
          refine flow_plain rfl ?_
          exact gives_move rfl ⟨Below.refl _ _, h8⟩
        refine allFrom_cons ?_ ?_
        · intro a_ w_ hk_
          have h47 : a_.eval (.tmp 47) = (.int .u32 (q2 : Int)) := hk_.got 21 47 _ (by kernel_rfl) rfl rfl
          have h48 : a_.eval (.tmp 48) = (.int .u32 (rk : Int)) := hk_.got 22 48 _ (by kernel_rfl) rfl rfl
          have hx_ := hk_.ext
          clear hk_
          refine flow_plain rfl ?_
          unfold gives
          have hc_ : ∀ v, a_.eval (.const v) = v := fun _ => rfl
          have hn_ : ∀ f, a_.eval (.func f) = .func (.func f) #[] #[] := fun _ => rfl
          generalize a_.eval = ρ_ at *
          go_simp
          exact ⟨Below.refl _ _, congrArg (Value.int _) (add_w rfl rfl HQ3.out)⟩
        refine allFrom_cons ?_ ?_
        · intro a_ w_ hk_
          have h7 : a_.eval (.tmp 7) = .int .i64 k := hk_.old 7 (by kernel_rfl)
          have hx_ := hk_.ext
          clear hk_
          refine flow_plain rfl ?_
          exact gives_move rfl ⟨Below.refl _ _, h7⟩
        refine allFrom_cons ?_ ?_
        · intro a_ w_ hk_
          have h5 : a_.eval (.tmp 5) = .pointer (some ⟨g5, 0, none⟩) := hk_.old 5 (by kernel_rfl)
          have h50 : a_.eval (.tmp 50) = (.int .i64 k) := hk_.got 24 50 _ (by kernel_rfl) rfl rfl
          have hx_ := hk_.ext
          clear hk_
          refine flow_plain rfl ?_
          unfold gives
          have hc_ : ∀ v, a_.eval (.const v) = v := fun _ => rfl
          have hn_ : ∀ f, a_.eval (.func f) = .func (.func f) #[] #[] := fun _ => rfl
          generalize a_.eval = ρ_ at *
          go_simp
          exact ⟨Below.refl _ _, rfl⟩
        refine allFrom_cons ?_ ?_
        · intro a_ w_ hk_
          have h51 : a_.eval (.tmp 51) = (.pointer (some ⟨g5, k, none⟩)) := hk_.got 25 51 _ (by kernel_rfl) rfl rfl
          have hx_ := hk_.ext
          clear hk_
          refine flow_plain rfl ?_
          unfold gives
          have hc_ : ∀ v, a_.eval (.const v) = v := fun _ => rfl
          have hn_ : ∀ f, a_.eval (.func f) = .func (.func f) #[] #[] := fun _ => rfl
          have hcell := (hx_.cell (p := ⟨g5, k, none⟩) hg5).trans cW
          generalize a_.eval = ρ_ at *
          go_simp
          exact ⟨Below.refl _ _, rfl⟩
        refine allFrom_cons ?_ ?_
        · intro a_ w_ hk_
          have h49 : a_.eval (.tmp 49) = (.int .u32 (q3 : Int)) := hk_.got 23 49 _ (by kernel_rfl) rfl rfl
          have h52 : a_.eval (.tmp 52) = (.int .u32 (wk : Int)) := hk_.got 26 52 _ (by kernel_rfl) rfl rfl
          have hx_ := hk_.ext
          clear hk_
          refine flow_plain rfl ?_
          unfold gives
          have hc_ : ∀ v, a_.eval (.const v) = v := fun _ => rfl
          have hn_ : ∀ f, a_.eval (.func f) = .func (.func f) #[] #[] := fun _ => rfl
          generalize a_.eval = ρ_ at *
          go_simp
          exact ⟨Below.refl _ _, congrArg (Value.int _) (add_w rfl rfl HT.out)⟩
        refine allFrom_cons ?_ ?_
        · intro a_ w_ hk_
          have h53 : a_.eval (.tmp 53) = (.int .u32 (vt : Int)) := hk_.got 27 53 _ (by kernel_rfl) rfl rfl
          have hx_ := hk_.ext
          clear hk_
          refine flow_plain rfl ?_
          exact gives_assign rfl ⟨Below.refl _ _, h53⟩
        exact allFrom_nil
      intro f_ w_ hx_ hf_
      have h26 : f_ 26 = (.pointer (some ⟨g6, 7, none⟩)) := hf_ 0 26 _ (by decide) rfl rfl
      have h27 : f_ 27 = (.int .u32 (vh : Int)) := hf_ 1 27 _ (by decide) rfl rfl
      have h28 : f_ 28 = (.int .u32 (ve : Int)) := hf_ 2 28 _ (by decide) rfl rfl
      have h29 : f_ 29 = (.int .u32 ((rot ve 6 : Nat) : Int)) := hf_ 3 29 _ (by decide) rfl rfl
      have h30 : f_ 30 = (.int .u32 (ve : Int)) := hf_ 4 30 _ (by decide) rfl rfl
      have h31 : f_ 31 = (.int .u32 ((rot ve 11 : Nat) : Int)) := hf_ 5 31 _ (by decide) rfl rfl
      have h32 : f_ 32 = (.int .u32 (s1 : Int)) := hf_ 6 32 _ (by decide) rfl rfl
      have h33 : f_ 33 = (.int .u32 (ve : Int)) := hf_ 7 33 _ (by decide) rfl rfl
      have h34 : f_ 34 = (.int .u32 ((rot ve 25 : Nat) : Int)) := hf_ 8 34 _ (by decide) rfl rfl
      have h35 : f_ 35 = (.int .u32 ((bs1 ve : Nat) : Int)) := hf_ 9 35 _ (by decide) rfl rfl
      have h36 : f_ 36 = (.int .u32 (q1 : Int)) := hf_ 10 36 _ (by decide) rfl rfl
      have h37 : f_ 37 = (.int .u32 (ve : Int)) := hf_ 11 37 _ (by decide) rfl rfl
      have h38 : f_ 38 = (.pointer (some ⟨g6, 5, none⟩)) := hf_ 12 38 _ (by decide) rfl rfl
      have h39 : f_ 39 = (.int .u32 (vf : Int)) := hf_ 13 39 _ (by decide) rfl rfl
      have h40 : f_ 40 = (.int .u32 ((ve &&& vf : Nat) : Int)) := hf_ 14 40 _ (by decide) rfl rfl
      have h41 : f_ 41 = (.int .u32 (ve : Int)) := hf_ 15 41 _ (by decide) rfl rfl
      have h42 : f_ 42 = (.int .u32 ((4294967295 - ve : Nat) : Int)) := hf_ 16 42 _ (by decide) rfl rfl
      have h43 : f_ 43 = (.pointer (some ⟨g6, 6, none⟩)) := hf_ 17 43 _ (by decide) rfl rfl
      have h44 : f_ 44 = (.int .u32 (vg : Int)) := hf_ 18 44 _ (by decide) rfl rfl
      have h45 : f_ 45 = (.int .u32 (((4294967295 - ve) &&& vg : Nat) : Int)) := hf_ 19 45 _ (by decide) rfl rfl
      have h46 : f_ 46 = (.int .u32 ((chF ve vf vg : Nat) : Int)) := hf_ 20 46 _ (by decide) rfl rfl
      have h47 : f_ 47 = (.int .u32 (q2 : Int)) := hf_ 21 47 _ (by decide) rfl rfl
      have h48 : f_ 48 = (.int .u32 (rk : Int)) := hf_ 22 48 _ (by decide) rfl rfl
      have h49 : f_ 49 = (.int .u32 (q3 : Int)) := hf_ 23 49 _ (by decide) rfl rfl
      have h50 : f_ 50 = (.int .i64 k) := hf_ 24 50 _ (by decide) rfl rfl
      have h51 : f_ 51 = (.pointer (some ⟨g5, k, none⟩)) := hf_ 25 51 _ (by decide) rfl rfl
      have h52 : f_ 52 = (.int .u32 (wk : Int)) := hf_ 26 52 _ (by decide) rfl rfl
      have h53 : f_ 53 = (.int .u32 (vt : Int)) := hf_ 27 53 _ (by decide) rfl rfl
      have h11 : f_ 11 = (.int .u32 (vt : Int)) := hf_ 28 11 _ (by decide) rfl rfl
      simp only [mix, List.drop_succ_cons, List.drop_zero, h26, h27, h28, h29, h30, h31, h32, h33, h34, h35, h36, h37, h38, h39, h40, h41, h42, h43, h44, h45, h46, h47, h48, h49, h50, h51, h52, h53, h11]
      clear h26 h27 h28 h29 h30 h31 h32 h33 h34 h35 h36 h37 h38 h39 h40 h41 h42 h43 h44 h45 h46 h47 h48 h49 h50 h51 h52 h53 h11
      clear hf_
      have hA6 := hk6.below hx_ hk6.lt
      have hA5 := hk5.below hx_ hk5.lt
      have hA4 := hk4.below hx_ hk4.lt
      have hA2 := hk2.below hx_ hk2.lt
      have hBA := bx_trans hbr hx_
      have C0 := (hx_.cell (p := ⟨g6, 0, none⟩) hg6).trans c0
      have C1 := (hx_.cell (p := ⟨g6, 1, none⟩) hg6).trans c1
      have C2 := (hx_.cell (p := ⟨g6, 2, none⟩) hg6).trans c2
      have C3 := (hx_.cell (p := ⟨g6, 3, none⟩) hg6).trans c3
      have C4 := (hx_.cell (p := ⟨g6, 4, none⟩) hg6).trans c4
      have C5 := (hx_.cell (p := ⟨g6, 5, none⟩) hg6).trans c5
      have C6 := (hx_.cell (p := ⟨g6, 6, none⟩) hg6).trans c6
      have C7 := (hx_.cell (p := ⟨g6, 7, none⟩) hg6).trans c7
      have CW := (hx_.cell (p := ⟨g5, k, none⟩) hg5).trans cW
      clear hk6 hk5 hk4 hk2 hbr hx_ hg6 hg5 cW c0 c1 c2 c3 c4 c5 c6 c7
      generalize w_ = wa at *
      have hk6 := hA6
      have hk5 := hA5
      have hk4 := hA4
      have hk2 := hA2
      have hbr := hBA
      have hg6 := hk6.lt
      have hg5 := hk5.lt
      have cW := CW
      have c0 := C0
      have c1 := C1
      have c2 := C2
      have c3 := C3
      have c4 := C4
      have c5 := C5
      have c6 := C6
      have c7 := C7
      clear hA6 hA5 hA4 hA2 hBA CW C0 C1 C2 C3 C4 C5 C6 C7
      generalize wa = wr at *
      go_wp2_with fail
      refine wp_flow (by kernel_rfl) [0, 1, 0, 7, 15, 0, 47, 127, 0, 0, 512, 1792, 0, 0, 8192, 28672, 65280, 0, 131072, 0, 524288, 1966080, 4194048, 8388607, 16777215] 25 [false, false, false, false, false, false, false, false, false, false, false, false, true, false, false, false, false, false, false, false, false, false, false, false, false, false, false, false, false, false, false, false, false, false, false, false, false, false, false, false, false, false, false, false, false, false, false, false, false, false, false, false, false, false, true, true, true, true, true, true, true, true, true, true, true, true, true, true, true, true, true, true, true, true, true, true, true, true] (by kernel_rfl) (by decide) (by kernel_rfl) [FP.eq (.int .u32 (va : Int)), FP.eq (.int .u32 ((rot va 2 : Nat) : Int)), FP.eq (.int .u32 (va : Int)), FP.eq (.int .u32 ((rot va 13 : Nat) : Int)), FP.eq (.int .u32 (s2 : Int)), FP.eq (.int .u32 (va : Int)), FP.eq (.int .u32 ((rot va 22 : Nat) : Int)), FP.eq (.int .u32 ((bs0 va : Nat) : Int)), FP.eq (.int .u32 (va : Int)), FP.eq (.pointer (some ⟨g6, 1, none⟩)), FP.eq (.int .u32 (vb : Int)), FP.eq (.int .u32 ((va &&& vb : Nat) : Int)), FP.eq (.int .u32 (va : Int)), FP.eq (.pointer (some ⟨g6, 2, none⟩)), FP.eq (.int .u32 (vc : Int)), FP.eq (.int .u32 ((va &&& vc : Nat) : Int)), FP.eq (.int .u32 (((va &&& vb) ^^^ (va &&& vc) : Nat) : Int)), FP.eq (.pointer (some ⟨g6, 1, none⟩)), FP.eq (.int .u32 (vb : Int)), FP.eq (.pointer (some ⟨g6, 2, none⟩)), FP.eq (.int .u32 (vc : Int)), FP.eq (.int .u32 ((vb &&& vc : Nat) : Int)), FP.eq (.int .u32 ((majF va vb vc : Nat) : Int)), FP.eq (.int .u32 (vu : Int)), FP.eq (.int .u32 (vu : Int))] ?_ ?_
      · refine allFrom_cons ?_ ?_
        · intro a_ w_ hk_
          have h10 : a_.eval (.tmp 10) = .int .u32 (va : Int) := hk_.old 10 (by kernel_rfl)
          have hx_ := hk_.ext
          clear hk_
          refine flow_plain rfl ?_
          exact gives_move rfl ⟨Below.refl _ _, h10⟩
        refine allFrom_cons ?_ ?_
        · intro a_ w_ hk_
          have h54 : a_.eval (.tmp 54) = (.int .u32 (va : Int)) := hk_.got 0 54 _ (by kernel_rfl) rfl rfl
          have hx_ := hk_.ext
          clear hk_
          refine flow_plain rfl ?_
          unfold gives
          have hc_ : ∀ v, a_.eval (.const v) = v := fun _ => rfl
          have hn_ : ∀ f, a_.eval (.func f) = .func (.func f) #[] #[] := fun _ => rfl
          generalize a_.eval = ρ_ at *
          go_simp
          exact (down_any _ va 2 hva32 (by omega) (by omega)).mono fun e w' ⟨h1, h2⟩ => ⟨_, h1, by subst h2; exact Below.refl _ _, rfl⟩
        refine allFrom_cons ?_ ?_
        · intro a_ w_ hk_
          have h10 : a_.eval (.tmp 10) = .int .u32 (va : Int) := hk_.old 10 (by kernel_rfl)
          have hx_ := hk_.ext
          clear hk_
          refine flow_plain rfl ?_
          exact gives_move rfl ⟨Below.refl _ _, h10⟩
        refine allFrom_cons ?_ ?_
        · intro a_ w_ hk_
          have h56 : a_.eval (.tmp 56) = (.int .u32 (va : Int)) := hk_.got 2 56 _ (by kernel_rfl) rfl rfl
          have hx_ := hk_.ext
          clear hk_
          refine flow_plain rfl ?_
          unfold gives
          have hc_ : ∀ v, a_.eval (.const v) = v := fun _ => rfl
          have hn_ : ∀ f, a_.eval (.func f) = .func (.func f) #[] #[] := fun _ => rfl
          generalize a_.eval = ρ_ at *
          go_simp
          exact (down_any _ va 13 hva32 (by omega) (by omega)).mono fun e w' ⟨h1, h2⟩ => ⟨_, h1, by subst h2; exact Below.refl _ _, rfl⟩
        refine allFrom_cons ?_ ?_
        · intro a_ w_ hk_
          have h55 : a_.eval (.tmp 55) = (.int .u32 ((rot va 2 : Nat) : Int)) := hk_.got 1 55 _ (by kernel_rfl) rfl rfl
          have h57 : a_.eval (.tmp 57) = (.int .u32 ((rot va 13 : Nat) : Int)) := hk_.got 3 57 _ (by kernel_rfl) rfl rfl
          have hx_ := hk_.ext
          clear hk_
          refine flow_plain rfl ?_
          unfold gives
          have hc_ : ∀ v, a_.eval (.const v) = v := fun _ => rfl
          have hn_ : ∀ f, a_.eval (.func f) = .func (.func f) #[] #[] := fun _ => rfl
          generalize a_.eval = ρ_ at *
          go_simp
          exact ⟨Below.refl _ _, congrArg (Value.int _) (xor_w rfl rfl HS2.out (rot_lt hva32) (rot_lt hva32))⟩
        refine allFrom_cons ?_ ?_
        · intro a_ w_ hk_
          have h10 : a_.eval (.tmp 10) = .int .u32 (va : Int) := hk_.old 10 (by kernel_rfl)
          have hx_ := hk_.ext
          clear hk_
          refine flow_plain rfl ?_
          exact gives_move rfl ⟨Below.refl _ _, h10⟩
        refine allFrom_cons ?_ ?_
        · intro a_ w_ hk_
          have h59 : a_.eval (.tmp 59) = (.int .u32 (va : Int)) := hk_.got 5 59 _ (by kernel_rfl) rfl rfl
          have hx_ := hk_.ext
          clear hk_
          refine flow_plain rfl ?_
          unfold gives
          have hc_ : ∀ v, a_.eval (.const v) = v := fun _ => rfl
          have hn_ : ∀ f, a_.eval (.func f) = .func (.func f) #[] #[] := fun _ => rfl
          generalize a_.eval = ρ_ at *
          go_simp
          exact (down_any _ va 22 hva32 (by omega) (by omega)).mono fun e w' ⟨h1, h2⟩ => ⟨_, h1, by subst h2; exact Below.refl _ _, rfl⟩
        refine allFrom_cons ?_ ?_
        · intro a_ w_ hk_
          have h58 : a_.eval (.tmp 58) = (.int .u32 (s2 : Int)) := hk_.got 4 58 _ (by kernel_rfl) rfl rfl
          have h60 : a_.eval (.tmp 60) = (.int .u32 ((rot va 22 : Nat) : Int)) := hk_.got 6 60 _ (by kernel_rfl) rfl rfl
          have hx_ := hk_.ext
          clear hk_
          refine flow_plain rfl ?_
          unfold gives
          have hc_ : ∀ v, a_.eval (.const v) = v := fun _ => rfl
          have hn_ : ∀ f, a_.eval (.func f) = .func (.func f) #[] #[] := fun _ => rfl
          generalize a_.eval = ρ_ at *
          go_simp
          exact ⟨Below.refl _ _, congrArg (Value.int _) (xor_w rfl rfl HB0.out hs2l (rot_lt hva32))⟩
        refine allFrom_cons ?_ ?_
        · intro a_ w_ hk_
          have h10 : a_.eval (.tmp 10) = .int .u32 (va : Int) := hk_.old 10 (by kernel_rfl)
          have hx_ := hk_.ext
          clear hk_
          refine flow_plain rfl ?_
          exact gives_move rfl ⟨Below.refl _ _, h10⟩
        refine allFrom_cons ?_ ?_
        · intro a_ w_ hk_
          have h6 : a_.eval (.tmp 6) = .pointer (some ⟨g6, 0, none⟩) := hk_.old 6 (by kernel_rfl)
          have hx_ := hk_.ext
          clear hk_
          refine flow_plain rfl ?_
          unfold gives
          have hc_ : ∀ v, a_.eval (.const v) = v := fun _ => rfl
          have hn_ : ∀ f, a_.eval (.func f) = .func (.func f) #[] #[] := fun _ => rfl
          generalize a_.eval = ρ_ at *
          go_simp
          exact ⟨Below.refl _ _, rfl⟩
        refine allFrom_cons ?_ ?_
        · intro a_ w_ hk_
          have h63 : a_.eval (.tmp 63) = (.pointer (some ⟨g6, 1, none⟩)) := hk_.got 9 63 _ (by kernel_rfl) rfl rfl
          have hx_ := hk_.ext
          clear hk_
          refine flow_plain rfl ?_
          unfold gives
          have hc_ : ∀ v, a_.eval (.const v) = v := fun _ => rfl
          have hn_ : ∀ f, a_.eval (.func f) = .func (.func f) #[] #[] := fun _ => rfl
          have hcell := (hx_.cell (p := ⟨g6, 1, none⟩) hg6).trans c1
          generalize a_.eval = ρ_ at *
          go_simp
          exact ⟨Below.refl _ _, rfl⟩
        refine allFrom_cons ?_ ?_
        · intro a_ w_ hk_
          have h62 : a_.eval (.tmp 62) = (.int .u32 (va : Int)) := hk_.got 8 62 _ (by kernel_rfl) rfl rfl
          have h64 : a_.eval (.tmp 64) = (.int .u32 (vb : Int)) := hk_.got 10 64 _ (by kernel_rfl) rfl rfl
          have hx_ := hk_.ext
          clear hk_
          refine flow_plain rfl ?_
          unfold gives
          have hc_ : ∀ v, a_.eval (.const v) = v := fun _ => rfl
          have hn_ : ∀ f, a_.eval (.func f) = .func (.func f) #[] #[] := fun _ => rfl
          generalize a_.eval = ρ_ at *
          go_simp
          exact ⟨Below.refl _ _, congrArg (Value.int _) (and_w rfl rfl rfl hva32 hvb32)⟩
        refine allFrom_cons ?_ ?_
        · intro a_ w_ hk_
          have h10 : a_.eval (.tmp 10) = .int .u32 (va : Int) := hk_.old 10 (by kernel_rfl)
          have hx_ := hk_.ext
          clear hk_
          refine flow_plain rfl ?_
          exact gives_move rfl ⟨Below.refl _ _, h10⟩
        refine allFrom_cons ?_ ?_
        · intro a_ w_ hk_
          have h6 : a_.eval (.tmp 6) = .pointer (some ⟨g6, 0, none⟩) := hk_.old 6 (by kernel_rfl)
          have hx_ := hk_.ext
          clear hk_
          refine flow_plain rfl ?_
          unfold gives
          have hc_ : ∀ v, a_.eval (.const v) = v := fun _ => rfl
          have hn_ : ∀ f, a_.eval (.func f) = .func (.func f) #[] #[] := fun _ => rfl
          generalize a_.eval = ρ_ at *
          go_simp
          exact ⟨Below.refl _ _, rfl⟩
        refine allFrom_cons ?_ ?_
        · intro a_ w_ hk_
          have h67 : a_.eval (.tmp 67) = (.pointer (some ⟨g6, 2, none⟩)) := hk_.got 13 67 _ (by kernel_rfl) rfl rfl
          have hx_ := hk_.ext
          clear hk_
          refine flow_plain rfl ?_
          unfold gives
          have hc_ : ∀ v, a_.eval (.const v) = v := fun _ => rfl
          have hn_ : ∀ f, a_.eval (.func f) = .func (.func f) #[] #[] := fun _ => rfl
          have hcell := (hx_.cell (p := ⟨g6, 2, none⟩) hg6).trans c2
          generalize a_.eval = ρ_ at *
          go_simp
          exact ⟨Below.refl _ _, rfl⟩
        refine allFrom_cons ?_ ?_
        · intro a_ w_ hk_
          have h66 : a_.eval (.tmp 66) = (.int .u32 (va : Int)) := hk_.got 12 66 _ (by kernel_rfl) rfl rfl
          have h68 : a_.eval (.tmp 68) = (.int .u32 (vc : Int)) := hk_.got 14 68 _ (by kernel_rfl) rfl rfl
          have hx_ := hk_.ext
          clear hk_
          refine flow_plain rfl ?_
          unfold gives
          have hc_ : ∀ v, a_.eval (.const v) = v := fun _ => rfl
          have hn_ : ∀ f, a_.eval (.func f) = .func (.func f) #[] #[] := fun _ => rfl
          generalize a_.eval = ρ_ at *
          go_simp
          exact ⟨Below.refl _ _, congrArg (Value.int _) (and_w rfl rfl rfl hva32 hvc32)⟩
        refine allFrom_cons ?_ ?_
        · intro a_ w_ hk_
          have h65 : a_.eval (.tmp 65) = (.int .u32 ((va &&& vb : Nat) : Int)) := hk_.got 11 65 _ (by kernel_rfl) rfl rfl
          have h69 : a_.eval (.tmp 69) = (.int .u32 ((va &&& vc : Nat) : Int)) := hk_.got 15 69 _ (by kernel_rfl) rfl rfl
          have hx_ := hk_.ext
          clear hk_
          refine flow_plain rfl ?_
          unfold gives
          have hc_ : ∀ v, a_.eval (.const v) = v := fun _ => rfl
          have hn_ : ∀ f, a_.eval (.func f) = .func (.func f) #[] #[] := fun _ => rfl
          generalize a_.eval = ρ_ at *
          go_simp
          exact ⟨Below.refl _ _, congrArg (Value.int _) (xor_w rfl rfl rfl (and_lt32 hva32) (and_lt32 hva32))⟩
        refine allFrom_cons ?_ ?_
        · intro a_ w_ hk_
          have h6 : a_.eval (.tmp 6) = .pointer (some ⟨g6, 0, none⟩) := hk_.old 6 (by kernel_rfl)
          have hx_ := hk_.ext
          clear hk_
          refine flow_plain rfl ?_
          unfold gives
          have hc_ : ∀ v, a_.eval (.const v) = v := fun _ => rfl
          have hn_ : ∀ f, a_.eval (.func f) = .func (.func f) #[] #[] := fun _ => rfl
          generalize a_.eval = ρ_ at *
          go_simp
          exact ⟨Below.refl _ _, rfl⟩
        refine allFrom_cons ?_ ?_
        · intro a_ w_ hk_
          have h71 : a_.eval (.tmp 71) = (.pointer (some ⟨g6, 1, none⟩)) := hk_.got 17 71 _ (by kernel_rfl) rfl rfl
          have hx_ := hk_.ext
          clear hk_
          refine flow_plain rfl ?_
          unfold gives
          have hc_ : ∀ v, a_.eval (.const v) = v := fun _ => rfl
          have hn_ : ∀ f, a_.eval (.func f) = .func (.func f) #[] #[] := fun _ => rfl
          have hcell := (hx_.cell (p := ⟨g6, 1, none⟩) hg6).trans c1
          generalize a_.eval = ρ_ at *
          go_simp
          exact ⟨Below.refl _ _, rfl⟩
        refine allFrom_cons ?_ ?_
        · intro a_ w_ hk_
          have h6 : a_.eval (.tmp 6) = .pointer (some ⟨g6, 0, none⟩) := hk_.old 6 (by kernel_rfl)
          have hx_ := hk_.ext
          clear hk_
          refine flow_plain rfl ?_
          unfold gives
          have hc_ : ∀ v, a_.eval (.const v) = v := fun _ => rfl
          have hn_ : ∀ f, a_.eval (.func f) = .func (.func f) #[] #[] := fun _ => rfl
          generalize a_.eval = ρ_ at *
          go_simp
          exact ⟨Below.refl _ _, rfl⟩
        refine allFrom_cons ?_ ?_
        · intro a_ w_ hk_
          have h73 : a_.eval (.tmp 73) = (.pointer (some ⟨g6, 2, none⟩)) := hk_.got 19 73 _ (by kernel_rfl) rfl rfl
          have hx_ := hk_.ext
          clear hk_
          refine flow_plain rfl ?_
          unfold gives
          have hc_ : ∀ v, a_.eval (.const v) = v := fun _ => rfl
          have hn_ : ∀ f, a_.eval (.func f) = .func (.func f) #[] #[] := fun _ => rfl
          have hcell := (hx_.cell (p := ⟨g6, 2, none⟩) hg6).trans c2
          generalize a_.eval = ρ_ at *
          go_simp
          exact ⟨Below.refl _ _, rfl⟩
        refine allFrom_cons ?_ ?_
        · intro a_ w_ hk_
          have h72 : a_.eval (.tmp 72) = (.int .u32 (vb : Int)) := hk_.got 18 72 _ (by kernel_rfl) rfl rfl
          have h74 : a_.eval (.tmp 74) = (.int .u32 (vc : Int)) := hk_.got 20 74 _ (by kernel_rfl) rfl rfl
          have hx_ := hk_.ext
          clear hk_
          refine flow_plain rfl ?_
          unfold gives
          have hc_ : ∀ v, a_.eval (.const v) = v := fun _ => rfl
          have hn_ : ∀ f, a_.eval (.func f) = .func (.func f) #[] #[] := fun _ => rfl
          generalize a_.eval = ρ_ at *
          go_simp
          exact ⟨Below.refl _ _, congrArg (Value.int _) (and_w rfl rfl rfl hvb32 hvc32)⟩
        refine allFrom_cons ?_ ?_
        · intro a_ w_ hk_
          have h70 : a_.eval (.tmp 70) = (.int .u32 (((va &&& vb) ^^^ (va &&& vc) : Nat) : Int)) := hk_.got 16 70 _ (by kernel_rfl) rfl rfl
          have h75 : a_.eval (.tmp 75) = (.int .u32 ((vb &&& vc : Nat) : Int)) := hk_.got 21 75 _ (by kernel_rfl) rfl rfl
          have hx_ := hk_.ext
          clear hk_
          refine flow_plain rfl ?_
          unfold gives
          have hc_ : ∀ v, a_.eval (.const v) = v := fun _ => rfl
          have hn_ : ∀ f, a_.eval (.func f) = .func (.func f) #[] #[] := fun _ => rfl
          generalize a_.eval = ρ_ at *
          go_simp
          exact ⟨Below.refl _ _, congrArg (Value.int _) (xor_w rfl rfl rfl (xr_lt32 (and_lt32 hva32) (and_lt32 hva32)) (and_lt32 hvb32))⟩
        refine allFrom_cons ?_ ?_
        · intro a_ w_ hk_
          have h61 : a_.eval (.tmp 61) = (.int .u32 ((bs0 va : Nat) : Int)) := hk_.got 7 61 _ (by kernel_rfl) rfl rfl
          have h76 : a_.eval (.tmp 76) = (.int .u32 ((majF va vb vc : Nat) : Int)) := hk_.got 22 76 _ (by kernel_rfl) rfl rfl
          have hx_ := hk_.ext
          clear hk_
          refine flow_plain rfl ?_
          unfold gives
          have hc_ : ∀ v, a_.eval (.const v) = v := fun _ => rfl
          have hn_ : ∀ f, a_.eval (.func f) = .func (.func f) #[] #[] := fun _ => rfl
          generalize a_.eval = ρ_ at *
          go_simp
          exact ⟨Below.refl _ _, congrArg (Value.int _) (add_w rfl rfl HU.out)⟩
        refine allFrom_cons ?_ ?_
        · intro a_ w_ hk_
          have h77 : a_.eval (.tmp 77) = (.int .u32 (vu : Int)) := hk_.got 23 77 _ (by kernel_rfl) rfl rfl
          have hx_ := hk_.ext
          clear hk_
          refine flow_plain rfl ?_
          exact gives_assign rfl ⟨Below.refl _ _, h77⟩
        exact allFrom_nil
      intro f_ w_ hx_ hf_
      have h54 : f_ 54 = (.int .u32 (va : Int)) := hf_ 0 54 _ (by decide) rfl rfl
      have h55 : f_ 55 = (.int .u32 ((rot va 2 : Nat) : Int)) := hf_ 1 55 _ (by decide) rfl rfl
      have h56 : f_ 56 = (.int .u32 (va : Int)) := hf_ 2 56 _ (by decide) rfl rfl
      have h57 : f_ 57 = (.int .u32 ((rot va 13 : Nat) : Int)) := hf_ 3 57 _ (by decide) rfl rfl
      have h58 : f_ 58 = (.int .u32 (s2 : Int)) := hf_ 4 58 _ (by decide) rfl rfl
      have h59 : f_ 59 = (.int .u32 (va : Int)) := hf_ 5 59 _ (by decide) rfl rfl
      have h60 : f_ 60 = (.int .u32 ((rot va 22 : Nat) : Int)) := hf_ 6 60 _ (by decide) rfl rfl
      have h61 : f_ 61 = (.int .u32 ((bs0 va : Nat) : Int)) := hf_ 7 61 _ (by decide) rfl rfl
      have h62 : f_ 62 = (.int .u32 (va : Int)) := hf_ 8 62 _ (by decide) rfl rfl
      have h63 : f_ 63 = (.pointer (some ⟨g6, 1, none⟩)) := hf_ 9 63 _ (by decide) rfl rfl
      have h64 : f_ 64 = (.int .u32 (vb : Int)) := hf_ 10 64 _ (by decide) rfl rfl
      have h65 : f_ 65 = (.int .u32 ((va &&& vb : Nat) : Int)) := hf_ 11 65 _ (by decide) rfl rfl
      have h66 : f_ 66 = (.int .u32 (va : Int)) := hf_ 12 66 _ (by decide) rfl rfl
      have h67 : f_ 67 = (.pointer (some ⟨g6, 2, none⟩)) := hf_ 13 67 _ (by decide) rfl rfl
      have h68 : f_ 68 = (.int .u32 (vc : Int)) := hf_ 14 68 _ (by decide) rfl rfl
      have h69 : f_ 69 = (.int .u32 ((va &&& vc : Nat) : Int)) := hf_ 15 69 _ (by decide) rfl rfl
      have h70 : f_ 70 = (.int .u32 (((va &&& vb) ^^^ (va &&& vc) : Nat) : Int)) := hf_ 16 70 _ (by decide) rfl rfl
      have h71 : f_ 71 = (.pointer (some ⟨g6, 1, none⟩)) := hf_ 17 71 _ (by decide) rfl rfl
      have h72 : f_ 72 = (.int .u32 (vb : Int)) := hf_ 18 72 _ (by decide) rfl rfl
      have h73 : f_ 73 = (.pointer (some ⟨g6, 2, none⟩)) := hf_ 19 73 _ (by decide) rfl rfl
      have h74 : f_ 74 = (.int .u32 (vc : Int)) := hf_ 20 74 _ (by decide) rfl rfl
      have h75 : f_ 75 = (.int .u32 ((vb &&& vc : Nat) : Int)) := hf_ 21 75 _ (by decide) rfl rfl
      have h76 : f_ 76 = (.int .u32 ((majF va vb vc : Nat) : Int)) := hf_ 22 76 _ (by decide) rfl rfl
      have h77 : f_ 77 = (.int .u32 (vu : Int)) := hf_ 23 77 _ (by decide) rfl rfl
      have h12 : f_ 12 = (.int .u32 (vu : Int)) := hf_ 24 12 _ (by decide) rfl rfl
      simp only [mix, List.drop_succ_cons, List.drop_zero, h54, h55, h56, h57, h58, h59, h60, h61, h62, h63, h64, h65, h66, h67, h68, h69, h70, h71, h72, h73, h74, h75, h76, h77, h12]
      clear h54 h55 h56 h57 h58 h59 h60 h61 h62 h63 h64 h65 h66 h67 h68 h69 h70 h71 h72 h73 h74 h75 h76 h77 h12
      clear hf_
      have hA6 := hk6.below hx_ hk6.lt
      have hA5 := hk5.below hx_ hk5.lt
      have hA4 := hk4.below hx_ hk4.lt
      have hA2 := hk2.below hx_ hk2.lt
      have hBA := bx_trans hbr hx_
      have C0 := (hx_.cell (p := ⟨g6, 0, none⟩) hg6).trans c0
      have C1 := (hx_.cell (p := ⟨g6, 1, none⟩) hg6).trans c1
      have C2 := (hx_.cell (p := ⟨g6, 2, none⟩) hg6).trans c2
      have C3 := (hx_.cell (p := ⟨g6, 3, none⟩) hg6).trans c3
      have C4 := (hx_.cell (p := ⟨g6, 4, none⟩) hg6).trans c4
      have C5 := (hx_.cell (p := ⟨g6, 5, none⟩) hg6).trans c5
      have C6 := (hx_.cell (p := ⟨g6, 6, none⟩) hg6).trans c6
      have C7 := (hx_.cell (p := ⟨g6, 7, none⟩) hg6).trans c7
      have CW := (hx_.cell (p := ⟨g5, k, none⟩) hg5).trans cW
      clear hk6 hk5 hk4 hk2 hbr hx_ hg6 hg5 cW c0 c1 c2 c3 c4 c5 c6 c7
      generalize w_ = wa at *
      have hk6 := hA6
      have hk5 := hA5
      have hk4 := hA4
      have hk2 := hA2
      have hbr := hBA
      have hg6 := hk6.lt
      have hg5 := hk5.lt
      have cW := CW
      have c0 := C0
      have c1 := C1
      have c2 := C2
      have c3 := C3
      have c4 := C4
      have c5 := C5
      have c6 := C6
      have c7 := C7
      clear hA6 hA5 hA4 hA2 hBA CW C0 C1 C2 C3 C4 C5 C6 C7
      generalize wa = wr at *
      have hw0 := HW0.out
      have hw4 := HW4.out
      have hvs : spl ([va, vb, vc, vd, ve, vf, vg, vh].map cw).toArray 0 ([n0, va, vb, vc, n4, ve, vf, vg].map cw).toArray.toList = ([n0, va, vb, vc, n4, ve, vf, vg].map cw).toArray := spl_whole rfl
      have hz : 0 + ([n0, va, vb, vc, n4, ve, vf, vg].map cw).toArray.size ≤ ([va, vb, vc, vd, ve, vf, vg, vh].map cw).toArray.size := Nat.le_refl _
      have HVS := hid hvs
      have HZ := hid hz
      clear hvs hz
      go_wp2_with (refine wpList_store_agg rfl _ _ _ rfl _ _ rfl ([n0, va, vb, vc, n4, ve, vf, vg].map cw).toArray rfl (aggSS rfl) hk6 HZ.out (one_cw _) ?_; intro w10 hput)
      rw [HVS.out] at hput
      go_roundw
      case rel => exact ⟨k + 1, by omega, by go_num, hput.other hk2 (by omega), hput.other hk4 (by omega), hput.other hk5 (by omega), by rw [HSU.out, HST.out]; exact hput.blk, bx_put hbr hput (by omega)⟩
      case measure => simp [intOf]; omega
    · obtain rfl : k = 64 := by omega
      have hv8 := (rounds_ok hs hs32 hsl 64 (Nat.le_refl _)).1
      have hmf := HMF.out
      generalize roundsF s Ws 64 = V at *
      have HMF2 := hid hmf
      clear hmf HMF
      have haz : addTo s V 0 = s := by simp [addTo]
      rw [← haz] at hk2
      go_wp2
      go_loopw [97] (fun j wq => ∃ q : Nat, q ≤ 8 ∧ j = .int .i64 q ∧ Blk wq w.heap.size tS ((addTo s V q).map cw).toArray ∧ Blk wq g4 tS (List.replicate 8 (cw 0)).toArray ∧ Blk wq g6 tS (V.map cw).toArray ∧ Below w.heap.size w wq) (fun j _ => 8 - (intOf j).toNat)
      case atStart => exact ⟨0, by omega, rfl, hk2, hk4, hk6, hbr⟩
      case round =>
        clear hk2 hk4 hk6 hbr
        obtain ⟨q, hq, rfl, hk2, hk4, hk6, hbr⟩ := hrel
        by_cases hltq : q < 8
        · have hq8 : (q : Int) < 8 := by omega
          have hal := addTo_length hs hv8 (Nat.le_of_lt hltq)
          have ca := cellsS_cell hk2 (k := q) (by omega)
          rw [addTo_get hs hv8 hltq] at ca
          have cv := cellsS_cell hk6 (k := q) (by omega)
          have hstep := addTo_step hs hv8 hltq
          obtain ⟨o, ho⟩ : ∃ o : Nat, o = (s.getD q 0 + V.getD q 0) % 4294967296 := ⟨_, rfl⟩
          rw [← ho] at hstep
          have HO := hid ho
          have HST := hid hstep
          clear ho hstep
          have hg2 := hk2.lt
          have hg6 := hk6.lt
          generalize s.getD q 0 = x at *
          generalize V.getD q 0 = y at *
          go_wp2_with fail
          refine wp_flow (by kernel_rfl) [0, 1, 3, 0, 8, 24, 63, 127, 255] 7 [false, false, false, false, false, false, false, false, false, false, false, false, false, false, false, false, false, false, false, false, false, false, false, false, false, false, false, false, false, false, false, false, false, false, false, false, false, false, false, false, false, false, false, false, false, false, false, false, false, false, false, false, false, false, false, false, false, false, false, false, false, false, false, false, false, false, false, false, false, false, false, false, false, false, false, false, false, false, false, false, false, false, false, false, false, false, false, false, false, false, false, false, false, false, false, false, false, false, false, false, true, true, true, true, true, true, true, false] (by kernel_rfl) (by decide) (by kernel_rfl) [FP.eq (.int .i64 q), FP.eq (.pointer (some ⟨w.heap.size, q, none⟩)), FP.eq (.int .u32 (x : Int)), FP.eq (.int .i64 q), FP.eq (.pointer (some ⟨g6, q, none⟩)), FP.eq (.int .u32 (y : Int)), FP.eq (.int .u32 (o : Int))] ?_ ?_
          · refine allFrom_cons ?_ ?_
            · intro a_ w_ hk_
              have h13 : a_.eval (.tmp 13) = .int .i64 q := hk_.old 13 (by kernel_rfl)
              have hx_ := hk_.ext
              clear hk_
              refine flow_plain rfl ?_
              exact gives_move rfl ⟨Below.refl _ _, h13⟩
            refine allFrom_cons ?_ ?_
            · intro a_ w_ hk_
              have h2 : a_.eval (.tmp 2) = .pointer (some ⟨w.heap.size, 0, none⟩) := hk_.old 2 (by kernel_rfl)
              have h100 : a_.eval (.tmp 100) = (.int .i64 q) := hk_.got 0 100 _ (by kernel_rfl) rfl rfl
              have hx_ := hk_.ext
              clear hk_
              refine flow_plain rfl ?_
              unfold gives
              have hc_ : ∀ v, a_.eval (.const v) = v := fun _ => rfl
              have hn_ : ∀ f, a_.eval (.func f) = .func (.func f) #[] #[] := fun _ => rfl
              generalize a_.eval = ρ_ at *
              go_simp
              exact ⟨Below.refl _ _, rfl⟩
            refine allFrom_cons ?_ ?_
            · intro a_ w_ hk_
              have h101 : a_.eval (.tmp 101) = (.pointer (some ⟨w.heap.size, q, none⟩)) := hk_.got 1 101 _ (by kernel_rfl) rfl rfl
              have hx_ := hk_.ext
              clear hk_
              refine flow_plain rfl ?_
              unfold gives
              have hc_ : ∀ v, a_.eval (.const v) = v := fun _ => rfl
              have hn_ : ∀ f, a_.eval (.func f) = .func (.func f) #[] #[] := fun _ => rfl
              have hcell := (hx_.cell (p := ⟨w.heap.size, q, none⟩) hg2).trans ca
              generalize a_.eval = ρ_ at *
              go_simp
              exact ⟨Below.refl _ _, rfl⟩
            refine allFrom_cons ?_ ?_
            · intro a_ w_ hk_
              have h13 : a_.eval (.tmp 13) = .int .i64 q := hk_.old 13 (by kernel_rfl)
              have hx_ := hk_.ext
              clear hk_
              refine flow_plain rfl ?_
              exact gives_move rfl ⟨Below.refl _ _, h13⟩
            refine allFrom_cons ?_ ?_
            · intro a_ w_ hk_
              have h6 : a_.eval (.tmp 6) = .pointer (some ⟨g6, 0, none⟩) := hk_.old 6 (by kernel_rfl)
              have h103 : a_.eval (.tmp 103) = (.int .i64 q) := hk_.got 3 103 _ (by kernel_rfl) rfl rfl
              have hx_ := hk_.ext
              clear hk_
              refine flow_plain rfl ?_
              unfold gives
              have hc_ : ∀ v, a_.eval (.const v) = v := fun _ => rfl
              have hn_ : ∀ f, a_.eval (.func f) = .func (.func f) #[] #[] := fun _ => rfl
              generalize a_.eval = ρ_ at *
              go_simp
              exact ⟨Below.refl _ _, rfl⟩
            refine allFrom_cons ?_ ?_
            · intro a_ w_ hk_
              have h104 : a_.eval (.tmp 104) = (.pointer (some ⟨g6, q, none⟩)) := hk_.got 4 104 _ (by kernel_rfl) rfl rfl
              have hx_ := hk_.ext
              clear hk_
              refine flow_plain rfl ?_
              unfold gives
              have hc_ : ∀ v, a_.eval (.const v) = v := fun _ => rfl
              have hn_ : ∀ f, a_.eval (.func f) = .func (.func f) #[] #[] := fun _ => rfl
              have hcell := (hx_.cell (p := ⟨g6, q, none⟩) hg6).trans cv
              generalize a_.eval = ρ_ at *
              go_simp
              exact ⟨Below.refl _ _, rfl⟩
            refine allFrom_cons ?_ ?_
            · intro a_ w_ hk_
              have h102 : a_.eval (.tmp 102) = (.int .u32 (x : Int)) := hk_.got 2 102 _ (by kernel_rfl) rfl rfl
              have h105 : a_.eval (.tmp 105) = (.int .u32 (y : Int)) := hk_.got 5 105 _ (by kernel_rfl) rfl rfl
              have hx_ := hk_.ext
              clear hk_
              refine flow_plain rfl ?_
              unfold gives
              have hc_ : ∀ v, a_.eval (.const v) = v := fun _ => rfl
              have hn_ : ∀ f, a_.eval (.func f) = .func (.func f) #[] #[] := fun _ => rfl
              generalize a_.eval = ρ_ at *
              go_simp
              exact ⟨Below.refl _ _, congrArg (Value.int _) (add_w rfl rfl HO.out)⟩
            exact allFrom_nil
          intro f_ w_ hx_ hf_
          have h100 : f_ 100 = (.int .i64 q) := hf_ 0 100 _ (by decide) rfl rfl
          have h101 : f_ 101 = (.pointer (some ⟨w.heap.size, q, none⟩)) := hf_ 1 101 _ (by decide) rfl rfl
          have h102 : f_ 102 = (.int .u32 (x : Int)) := hf_ 2 102 _ (by decide) rfl rfl
          have h103 : f_ 103 = (.int .i64 q) := hf_ 3 103 _ (by decide) rfl rfl
          have h104 : f_ 104 = (.pointer (some ⟨g6, q, none⟩)) := hf_ 4 104 _ (by decide) rfl rfl
          have h105 : f_ 105 = (.int .u32 (y : Int)) := hf_ 5 105 _ (by decide) rfl rfl
          have h106 : f_ 106 = (.int .u32 (o : Int)) := hf_ 6 106 _ (by decide) rfl rfl
          simp only [mix, List.drop_succ_cons, List.drop_zero, h100, h101, h102, h103, h104, h105, h106]
          clear h100 h101 h102 h103 h104 h105 h106
          clear hf_
          have hA2 := hk2.below hx_ hk2.lt
          have hA4 := hk4.below hx_ hk4.lt
          have hA6 := hk6.below hx_ hk6.lt
          have hput := setCell_put hA2 (i := q) (.int .u32 (o : Int))
          rw [HST.out] at hput
          have hgz := hA2.cell q
          have hfz := hA2.frozen q
          have hgn : ∃ v, ((addTo s V q).map cw).toArray[q]? = some v := ⟨_, Array.getElem?_eq_getElem (by simp; omega)⟩
          obtain ⟨v0, hv0⟩ := hgn
          rw [hv0] at hgz
          have hn2 := hput.blk
          have hn4 := hput.other hA4 (by omega)
          have hn6 := hput.other hA6 (by omega)
          have hbn := bx_put (bx_trans hbr hx_) hput (Nat.le_refl _)
          clear hput hA2 hA4 hA6 hk2 hk4 hk6 ca cv hv0
          go_wp2
          go_roundw
          case rel => exact ⟨q + 1, by omega, by go_num, hn2, hn4, hn6, hbn⟩
          case measure => simp [intOf]; omega
        · obtain rfl : q = 8 := by omega
          rw [addTo_all hs hv8, ← HMF2.out] at hk2
          have hm8 : (moreF s b).length = 8 := by rw [HMF2.out]; exact addF_length hs hv8
          generalize hM : moreF s b = M at *
          have HM := hid hM
          clear hM HMF2
          have hz : 0 + (M.map cw).toArray.size ≤ ((List.replicate 8 (cw 0)).toArray).size := by simp [hm8]
          have HZ := hid hz
          clear hz hz8
          go_wp2_with (first
            | (refine wpList_load_agg rfl _ _ rfl _ _ rfl (M.map cw) (aggSL hm8) (blk_cells hk2) ?_)
            | (refine wpList_store_agg rfl _ _ _ rfl _ _ rfl (M.map cw).toArray rfl (aggSS hm8) hk4 HZ.out (one_cw _) ?_; intro w11 hput))
          have hsp : spl (List.replicate 8 (cw 0)).toArray 0 (M.map cw).toArray.toList = (M.map cw).toArray := spl_whole (by simp [hm8])
          rw [hsp] at hput
          refine bodyPost_ret (results_agg (cs := M.map cw) rfl rfl (aggSL hm8) (blk_cells hput.blk)) rfl ⟨?_, bx_put hbr hput (by omega)⟩
          rw [HM.out]
end Go.Proofs.YtgaefejblmnklaaDoor
