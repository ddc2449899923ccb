
/- Clashes: rows of any place; Made. Clashes: slices.Backward of rows. Clashes: highest. -/
import Derived.Test.YtgaefejblmnklaaDoorClF
import Derived.Scope
namespace Go.Proofs.YtgaefejblmnklaaDoor
section
open Go.RowKit
set_option linter.unusedVariables false
/-- What rows tells: the error, the hash, the rows. -/
def rowsE (size i p : Nat) : Int := if size ≤ i then 15 else if (flg size i).length = p then 0 else 20
def rowsH (wide : Int) (size i : Nat) (en : List UInt8) (path : List (List UInt8)) : List UInt8 := if rowsE size i path.length = 0 then (rowsL wide (flg size i) en path).2 else zeroL
def rowsR (wide : Int) (size i : Nat) (en : List UInt8) (path : List (List UInt8)) : List (List UInt8) := if rowsE size i path.length = 0 then (rowsL wide (flg size i) en path).1 else []
theorem rowsL_hash {wide : Int} {fs : List Bool} {en : List UInt8} {path : List (List UInt8)} (h : fs.length = path.length) : (rowsL wide fs en path).2.length = 32 := by
  rw [← rowsTo_all h]
  exact rowsTo_hash h _ (Nat.le_refl _)
theorem rowsE_ok {size i p : Nat} (h : rowsE size i p = 0) : i < size ∧ (flg size i).length = p := by
  unfold rowsE at h
  split at h
  · omega
  · split at h
    · exact ⟨by omega, by assumption⟩
    · omega
theorem rowsH_len (wide : Int) (size i : Nat) (en : List UInt8) (path : List (List UInt8)) : (rowsH wide size i en path).length = 32 := by
  unfold rowsH
  split
  · rename_i h
    exact rowsL_hash (rowsE_ok h).2
  · exact zeroL_len
theorem rows_any (w : World) (hL : Laid w) (wide : Int) {size i : Nat} (hsz : size < 18446744073709551616) {Ae : Option Addr} {ce : Nat} {en : List UInt8} (hre : Rd w w.heap.size Ae (en.map cb)) (hce : en.length ≤ ce) (hle : en.length ≤ 100000000)
    {Ap : Option Addr} {c p : Nat} {path : List (List UInt8)} (hpl : path.length = p) (h32 : ∀ x ∈ path, x.length = 32) (hrp : Rd w w.heap.size Ap (path.flatten.map cb)) (hp : p ≤ 1000) :
    Calls Tryd.prog 18 #[.int .i64 wide, .int .u64 (size : Int), .int .u64 (i : Int), .slice Ae en.length ce, .slice Ap p c] w fun e w' => ∃ vo vs, e = .returned (.tuple #[vo, .agg ((rowsH wide size i en path).map cb).toArray, .int .i64 (rowsE size i p)]) ∧ w'.ownsRow w.heap.size tBy 1 vo (rowsR wide size i en path).length vs ∧ Owns w' w.heap.size vs (rowsR wide size i en path) ∧ Below w.heap.size w w' := by
  by_cases hi : size ≤ i
  · refine (rows_range w wide size i hi _ _).mono ?_
    rintro e w' ⟨hb, rfl⟩
    have he : ∀ p, rowsE size i p = 15 := fun p => if_pos hi
    have hH : rowsH wide size i en path = zeroL := by unfold rowsH; rw [he, if_neg (by decide)]
    have hR : rowsR wide size i en path = [] := by unfold rowsR; rw [he, if_neg (by decide)]
    rw [hH, hR, he]
    exact ⟨_, [], rfl, nil_ownC _ _ _ _, fun k v l h1 _ => by simp at h1, hb⟩
  · refine (rows_in w hL wide hsz (by omega) hre hce hle hpl h32 hrp hp).mono ?_
    rintro e w' ⟨hb, h⟩
    by_cases hl : (flg size i).length = path.length
    · rw [if_pos hl] at h
      have he : rowsE size i p = 0 := by unfold rowsE; rw [if_neg hi, if_pos (by rw [hl, hpl])]
      have he2 : rowsE size i path.length = 0 := by rw [hpl]; exact he
      have hH : rowsH wide size i en path = (rowsL wide (flg size i) en path).2 := by unfold rowsH; rw [if_pos he2]
      have hR : rowsR wide size i en path = (rowsL wide (flg size i) en path).1 := by unfold rowsR; rw [if_pos he2]
      obtain ⟨vo, vs, rfl, h1, h2⟩ := h
      rw [hH, hR, he]
      exact ⟨vo, vs, rfl, h1, h2, hb⟩
    · rw [if_neg hl] at h
      subst h
      have he : rowsE size i p = 20 := by unfold rowsE; rw [if_neg hi, if_neg (by rw [← hpl]; exact hl)]
      have he2 : rowsE size i path.length = 20 := by rw [hpl]; exact he
      have hH : rowsH wide size i en path = zeroL := by unfold rowsH; rw [he2, if_neg (by decide)]
      have hR : rowsR wide size i en path = [] := by unfold rowsR; rw [he2, if_neg (by decide)]
      rw [hH, hR, he]
      exact ⟨_, [], rfl, nil_ownC _ _ _ _, fun k v l h1 _ => by simp at h1, hb⟩
theorem results_h2 {P : Program} {fn : Func} {p q : Tmp} {ty : TypeId} (h : fn.results = #[.cell p ty, .tmp q]) {tmps : Array Value} {w : World} {g off : Nat} {cs : List Value}
    (hp : tmps.getD p undef = .pointer (some ⟨g, off, none⟩)) (hT : AggT P ty cs.length) (hc : ∀ j v, cs[j]? = some v → w.cell? ⟨g, off + j, none⟩ = some v) :
    (results fn tmps).run P w = .ok (.tuple #[.agg cs.toArray, tmps.getD q undef]) w := by
  have hp' : tmps[p]?.getD undef = .pointer (some ⟨g, off, none⟩) := by simpa using hp
  simp [results, h, hp', asAddr, run_load_agg hT hc]
set_option maxRecDepth 100000 in
set_option maxHeartbeats 1000000 in
theorem Made_any (w : World) (hL : Laid w) (wide : Int) {size i : Nat} (hsz : size < 18446744073709551616) {Ae : Option Addr} {ce : Nat} {en : List UInt8} (hre : Rd w w.heap.size Ae (en.map cb)) (hce : en.length ≤ ce) (hle : en.length ≤ 100000000)
    {Ap : Option Addr} {c p : Nat} {path : List (List UInt8)} (hpl : path.length = p) (h32 : ∀ x ∈ path, x.length = 32) (hrp : Rd w w.heap.size Ap (path.flatten.map cb)) (hp : p ≤ 1000) :
    Calls Tryd.prog 10 #[.int .i64 wide, .int .u64 (size : Int), .int .u64 (i : Int), .slice Ae en.length ce, .slice Ap p c] w fun e w' => e = .returned (.tuple #[.agg ((rowsH wide size i en path).map cb).toArray, .int .i64 (rowsE size i p)]) ∧ Below w.heap.size w w' := by
  have HR := hid (fun (w' : World) (hb : Below w.heap.size w w') => rows_any w' (hL.below hb) wide (i := i) hsz ((hre.below hb).more hb.size) hce hle (c := c) hpl h32 ((hrp.below hb).more hb.size) hp)
  have hX := rowsH_len wide size i en path
  obtain ⟨X, hXe⟩ : ∃ X, X = rowsH wide size i en path := ⟨_, rfl⟩
  obtain ⟨E, hE⟩ : ∃ E, E = rowsE size i p := ⟨_, rfl⟩
  rw [← hXe] at hX HR ⊢
  rw [← hE] at HR ⊢
  clear hXe hE hL hre hrp hpl h32
  go_enter Tryd.func10, Tryd.ntmps10
  go_wp2_with (first
    | ((with_reducible refine wpAtC ?_); refine wpList_alloc rfl _ rfl zeroH ?_; intro g4 w4 hg4 hg4' hz4 hb4; simp only [Act.put, List.setIfInBounds_toArray, List.set_cons_succ, List.set_cons_zero]))
  refine (HR.out w4 hb4).mono ?_
  rintro e w5 ⟨vo, vs, rfl, hown, _, hb5⟩
  have hb05 := bx_trans hb4 hb5
  have hz5 := hz4.below hb5 hg4'
  clear hown hz4
  go_wp2_with (first
    | ((with_reducible refine wpAtC ?_); refine wpList_alloc rfl _ rfl zeroH ?_; intro g6 w6 hg6 hg6' hz6 hb6; simp only [Act.put, List.setIfInBounds_toArray, List.set_cons_succ, List.set_cons_zero])
    | ((with_reducible refine wpAtC ?_); refine wpList_store_agg rfl _ _ _ rfl _ _ rfl (X.map cb).toArray rfl (aggHS hX) hz6 (szH hX) (one_cbA _) ?_; intro w7 hp7; simp only [Act.put]; rw [splH hX] at hp7; have hz7 := hp7.other (hz5.below hb6 hz5.lt) (by have := hz5.lt; omega); have hx7 := hp7.blk)
    | ((with_reducible refine wpAtC ?_); refine wpList_load_agg rfl _ _ rfl _ _ rfl (X.map cb) (aggHL hX) (blk_cells hx7) ?_; simp only [Act.put, List.setIfInBounds_toArray, List.set_cons_succ, List.set_cons_zero])
    | ((with_reducible refine wpAtC ?_); refine wpList_store_agg rfl _ _ _ rfl _ _ rfl (X.map cb).toArray rfl (aggHS hX) hz7 (szH hX) (one_cbA _) ?_; intro w8 hp8; simp only [Act.put]; rw [splH hX] at hp8))
  exact bodyPost_ret (results_h2 rfl rfl (aggHL hX) (blk_cells hp8.blk)) rfl ⟨rfl, bx_put (bx_put (bx_trans hb05 hb6) hp7 (Nat.le_trans hb05.size hg6)) hp8 hg4⟩
end
section
open Go.RowKit
set_option linter.unusedVariables false
set_option maxHeartbeats 1000000 in
theorem BackB_any (w : World) (A : Option Addr) (n c : Nat) : Calls Tryd.prog 31 #[.slice A n c] w fun e w' => e = .returned (.func (.func 36) #[] #[.pointer (some ⟨w.heap.size, 0, none⟩)]) ∧ w' = w.alloc (.cells #[.slice A n c] tBB) := by
  go_enter Tryd.func31, Tryd.ntmps31
  go_wp2
  go_ret
  exact ⟨rfl, rfl⟩
attribute [local go_sem] Oper.semAt_some
set_option maxRecDepth 100000 in
set_option maxHeartbeats 1000000 in
theorem backB_in (n : Nat) (hn : 1 ≤ n) (m l Bs g cap : Nat) (hm : m ≤ 1000000) (hcap : m ≤ cap) (hcap2 : cap ≤ 9223372036854775807) (vs : List Value) (hsl : vs.length = m) (W : World) (J Jx : List (Fin m) → World → Prop)
    (hY : ∀ pre x W', J pre W' → pre.length < m → pre.length = x.val → YieldAt Fence.wide (n - 1) Tryd.prog l #[.int .i64 ((m - 1 - x.val : Nat) : Int), vs.getD (m - 1 - x.val) undef] W' fun e W'' =>
      (e = .returned (.bool true) ∧ J (pre ++ [x]) W'' ∧ KpB Bs g W' W'') ∨ (e = .returned (.bool false) ∧ Jx (pre ++ [x]) W''))
    (hbs : W.cell? ⟨Bs, 0, none⟩ = some (.slice (some ⟨g, 0, none⟩) m cap)) (hrow : ∀ i v, vs[i]? = some v → W.cell? ⟨g, 0 + i, none⟩ = some v) (hg : g < W.heap.size) (h0 : J [] W) :
    CallsIn Fence.wide n Tryd.prog 36 #[.func (.yield l) #[] #[], .pointer (some ⟨Bs, 0, none⟩)] W fun e W' => (∃ v, e = .returned v) ∧
      ((∃ ys : List (Fin m), ys.map Fin.val = List.range m ∧ J ys W') ∨ (∃ pre, pre.map Fin.val = List.range pre.length ∧ Jx pre W')) := by
  have HY := hid hY
  have HR := hid hrow
  have HSL := hid hsl
  clear hY hrow hsl
  refine callsIn_of_wp Tryd.func36 rfl trivial ?_ rfl
  simp only [Tryd.ntmps36, List.size_toArray, List.length_cons, List.length_nil, Nat.reduceAdd, Nat.reduceSub, Array.replicate_succ, Array.replicate_zero, List.push_toArray, List.append_toArray, List.nil_append, List.cons_append]
  gi_wp2
  gi_loopw [3] (fun i wr => ∃ (k : Nat) (pre : List (Fin m)), k ≤ m ∧ i = .int .i64 ((m : Int) - 1 - (k : Int)) ∧ pre.map Fin.val = List.range k ∧ J pre wr ∧ KpB Bs g W wr)
    (fun i _ => (intOf i + 1).toNat)
  case atStart => exact ⟨0, [], Nat.zero_le _, by go_num, rfl, h0, KpB.refl _ _ _⟩
  case round =>
    obtain ⟨k, pre, hk', rfl, hpre, hJs, hnx⟩ := hrel
    rename World => wr
    have hcs := hnx.s.trans hbs
    have hpl : pre.length = k := by rw [← List.length_map (f := Fin.val), hpre, List.length_range]
    by_cases hlt : k < m
    · obtain ⟨a, ha⟩ : ∃ a, a = m - 1 - k := ⟨_, rfl⟩
      have hae : (m : Int) - 1 - (k : Int) = (a : Int) := by omega
      rw [hae]
      have ham : a < m := by omega
      obtain ⟨fn, tmps, assign, body, hy, hR⟩ := HY.out pre ⟨k, hlt⟩ wr hJs (by omega) hpl
      simp only [← ha] at hy
      have hal : a < vs.length := by rw [HSL.out]; exact ham
      have hgd : vs.getD a undef = vs[a] := by simp [List.getD, hal]
      rw [hgd] at hy
      have hwc : wr.cell? ⟨g, a, none⟩ = some vs[a] := by
        have := HR.out a vs[a] (List.getElem?_eq_getElem hal)
        rw [Nat.zero_add] at this
        exact (World.cell?_of_block hnx.2).trans this
      generalize vs[a] = h at *
      have HA := hid ha
      clear ha hgd hal hJs
      gi_wp2
      refine hR.mono ?_
      rintro e W3 (⟨rfl, hJ3, hk3⟩ | ⟨rfl, hJx3⟩)
      · have hB3 := hnx.trans hk3
        clear hnx hk3 hcs hwc hy hR
        gi_wp2
        go_roundw
        case rel => exact ⟨k + 1, pre ++ [⟨k, hlt⟩], by omega, by congr 1; omega, by rw [List.map_append, hpre, List.range_succ]; rfl, hJ3, hB3⟩
        case measure => simp [intOf]
      · clear hnx hcs hwc hy hR
        gi_wp2
        refine bodyPost_ret (results_none rfl _ _ _) rfl ?_
        exact ⟨⟨_, rfl⟩, .inr ⟨_, by rw [List.map_append, hpre, List.length_append, hpl, show k + [(⟨k, hlt⟩ : Fin m)].length = k + 1 from rfl, List.range_succ]; rfl, hJx3⟩⟩
    · obtain rfl : k = m := by omega
      have hneg : (k : Int) - 1 - (k : Int) = -1 := by omega
      rw [hneg]
      gi_wp2
      go_end0
      exact ⟨⟨_, rfl⟩, .inl ⟨_, hpre, hJs⟩⟩
end
section
open Go.RowKit
set_option linter.unusedVariables false
abbrev tCl : Nat := 36
def nilC : Value := .slice none 0 0
theorem zeroCl : ZeroT Tryd.prog tCl (.agg #[nilC, nilC]) := zeroT_of (by kernel_rfl)
theorem aggCl (a b : Value) : AggT Tryd.prog tCl [a, b].length := aggT_of Tryd.underlying36 rfl (by kernel_rfl)
/-- What highest tells: nothing, of the same rows; else the highest ones that differ. -/
def HiRet (l m : List (List UInt8)) (vs us : List Value) (w : World) (e : Ending) (w' : World) : Prop :=
  Below w.heap.size w w' ∧
  ((l = m ∧ e = .returned (.tuple #[.agg #[nilC, nilC], .bool false])) ∨
   (∃ k, k < l.length ∧ l.getD k [] ≠ m.getD k [] ∧ (∀ j, k < j → j < l.length → l.getD j [] = m.getD j []) ∧ e = .returned (.tuple #[.agg #[vs.getD k undef, us.getD k undef], .bool true])))
/-- What the rounds keep: above, the rows are the same. -/
def HiI {M : Nat} (l m : List (List UInt8)) (g6 g7 n8 : Nat) (w6 : World) (pre : List (Fin M)) (W : World) : Prop :=
  (∀ y ∈ pre, l.getD (M - 1 - y.val) [] = m.getD (M - 1 - y.val) []) ∧ Blk W g6 tCl #[nilC, nilC] ∧ Blk W g7 4 #[.bool false] ∧ Below w6.heap.size w6 W ∧ n8 ≤ W.heap.size
def HiX {M : Nat} (l m : List (List UInt8)) (vs us : List Value) (g6 g7 n8 : Nat) (w4 : World) (cc : Code) (pre : List (Fin M)) (W : World) : Prop :=
  cc = .exit 0 ∧ ∃ q, (∃ pr x, pre = pr ++ [x] ∧ q = M - 1 - x.val ∧ ∀ y ∈ pr, l.getD (M - 1 - y.val) [] = m.getD (M - 1 - y.val) []) ∧ q < M ∧ l.getD q [] ≠ m.getD q [] ∧ Blk W g6 tCl #[vs.getD q undef, us.getD q undef] ∧ Blk W g7 4 #[.bool true] ∧ Below w4.heap.size w4 W ∧ n8 ≤ W.heap.size
theorem wpListIn_build {F : Fence} (hF : ∀ f, F.fn f) {n : Nat} {P : Program} {ops : Array Oper} {rest : List Oper} {o : Oper} {a : Act} {w : World} {Q : Exit → Act → World → Prop} (hgd : o.guard = none) (t : TypeId) (parts : Array (Nat × Operand)) (ho : o.op = .build t parts)
    (vs : List Value) (hv : (parts.map fun (i, x) => (i, a.eval x)).toList = (vs.zipIdx 0).map fun x => (x.2, x.1)) {cells : Array Value} (hb : P.built t ((vs.zipIdx 0).map fun x => (x.2, x.1)) = some cells) (h : wpListIn F n P ops Q rest (a.put o.dst (.agg cells)) w) : wpListIn F n P ops Q (o :: rest) a w :=
  wpListIn_plain hgd fun _ hK => by
    refine ⟨fun f _ => hF f, ?_⟩
    rw [semAt_exec _ (by rw [ho]; intro c; exact nofun)]
    unfold execOp
    rw [← hv] at hb
    simp only [ho, Sem.run_bind, run_build w t _ cells hb, Result.andThen_ok, Sem.run_pure]
    exact hK _ _ h
theorem bltCl (A A' : Option Addr) (n n' c c' : Nat) : Tryd.prog.built tCl (([.slice A n c, .slice A' n' c'].zipIdx 0).map fun x => (x.2, x.1)) = some #[.slice A n c, .slice A' n' c'] := by
  have := built_struct (P := Tryd.prog) (vs := [.slice A n c, .slice A' n' c']) (sizes := [1, 1]) Tryd.underlying36 (z := .agg #[nilC, nilC]) (by kernel_rfl) (by kernel_rfl) (by simp [Value.cells]) rfl
  rw [this]
  rfl
attribute [local go_sem] Oper.semAt_some
set_option maxRecDepth 100000 in
set_option maxHeartbeats 1000000 in
theorem highest_some (w : World) {B M g1 c1 g2 c2 : Nat} {l m : List (List UInt8)} {vs us : List Value} (hl : l.length = M) (hm : m.length = M) (h1 : 1 ≤ M) (hM : M ≤ 100000) (ho1 : w.ownsRow B tBy 1 (.slice (some ⟨g1, 0, none⟩) M c1) M vs) (ho2 : w.ownsRow B tBy 1 (.slice (some ⟨g2, 0, none⟩) M c2) M us) (hr1 : Owns w B vs l) (hr2 : Owns w B us m) :
    Calls Tryd.prog 20 #[.slice (some ⟨g1, 0, none⟩) M c1, .slice (some ⟨g2, 0, none⟩) M c2] w (HiRet l m vs us w) := by
  have HO1 := hid ho1
  have HO2 := hid ho2
  have HR1 := hid hr1
  have HR2 := hid hr2
  have HLL := hid hl
  have HML := hid hm
  clear ho1 ho2 hr1 hr2 hl hm
  have hb1 : Below w.heap.size w (w.alloc (.cells #[.slice (some ⟨g2, 0, none⟩) M c2] tBB)) := bx_alloc (Below.refl _ _) _
  refine callsIn_wide.1 (callsIn_of_wp_marks (n := 10) Tryd.func20 rfl trivial (wpIn_wide.2 ?_) rfl)
  simp only [Tryd.ntmps20, List.size_toArray, List.length_cons, List.length_nil, Nat.reduceAdd, Nat.reduceSub, Array.replicate_succ, Array.replicate_zero, List.push_toArray, List.append_toArray, List.nil_append, List.cons_append]
  go_wp2_with (first
    | ((with_reducible refine wpAtC ?_); refine wpList_alloc (w := w.alloc (.cells #[.slice (some ⟨g2, 0, none⟩) M c2] tBB)) rfl _ rfl zeroCl ?_; intro g4 w4 hg4 hg4' hz4 hb4; simp only [Act.put, List.setIfInBounds_toArray, List.set_cons_succ, List.set_cons_zero]))
  have hb04 := hb1.trans (hb4.mono hb1.size)
  refine wp_scope_straight ?_
  go_wp2_with (first
    | ((with_reducible refine wpAtC ?_); refine wpList_alloc (w := w4) rfl _ rfl zeroCl ?_; intro g6 w6 hg6 hg6' hz6 hb6; simp only [Act.put, List.setIfInBounds_toArray, List.set_cons_succ, List.set_cons_zero]))
  have hb46 := hb6
  have hb06 := bx_trans hb04 hb6
  refine wp_label ?_
  go_wp2_with fail
  have hb7 : Blk (w6.alloc (.cells #[.bool false] 4)) w6.heap.size 4 #[.bool false] := Blk.new _ _ _
  have hbw7 : Below w6.heap.size w6 (w6.alloc (.cells #[.bool false] 4)) := bx_alloc (Below.refl _ _) _
  have hs7 : (w6.alloc (.cells #[.bool false] 4)).heap.size = w6.heap.size + 1 := by simp
  obtain ⟨g7, hg7⟩ : ∃ g7, g7 = w6.heap.size := ⟨_, rfl⟩
  rw [← hg7] at hb7 hs7 ⊢
  generalize w6.alloc (.cells #[.bool false] 4) = w7 at *
  refine (BackB_any w7 _ _ _).mono ?_
  rintro e w8 ⟨rfl, hw8⟩
  have cb8 : w8.cell? ⟨w7.heap.size, 0, none⟩ = some (.slice (some ⟨g1, 0, none⟩) M c1) := by rw [hw8]; exact (Blk.new w7 tBB #[.slice (some ⟨g1, 0, none⟩) M c1]).cell 0
  have hb78 : Below w7.heap.size w7 w8 := by rw [hw8]; exact bx_alloc (Below.refl _ _) _
  have hs8 : w8.heap.size = w7.heap.size + 1 := by rw [hw8]; simp
  have hb08 := bx_trans (bx_trans hb06 hbw7) hb78
  have hbk7 := hb7.below hb78 hb7.lt
  have hbk6 := hz6.below (bx_trans hbw7 hb78) hz6.lt
  have hbk4 := (hz4.below hb6 hz4.lt).below (bx_trans hbw7 hb78) (hz4.below hb6 hz4.lt).lt
  have hlv : vs.length = M := by have := HO1.out.1; omega
  have hg1 : g1 < w.heap.size := (HO1.out.lt g1 rfl).2
  have hcap : M ≤ c1 ∧ c1 ≤ 9223372036854775807 := by
    obtain ⟨g', cap', e, _, _, q1, q2⟩ := own_block HO1.out h1
    injection e with _ _ e
    subst e
    exact ⟨q1, q2⟩
  have hrow8 : ∀ i v, vs[i]? = some v → w8.cell? ⟨g1, 0 + i, none⟩ = some v := by
    intro i v hv
    rcases own_rd HO1.out with h | ⟨b', off', he, _, hc'⟩
    · rw [h] at hv; cases hv
    · injection he with he
      injection he with e1 e2
      subst e1 e2
      exact (hb08.cell (p := ⟨g1, 0 + i, none⟩) hg1).trans (hc' i v hv)
  have hg18 : g1 < w8.heap.size := Nat.lt_of_lt_of_le hg1 hb08.size
  have hKb : ∀ (W : World) (k : Nat) (o o' : Obj), w8.heap.size ≤ k → W.heap[k]? = some o → o.isCells = false → o.isWalk = false → KpB w7.heap.size g1 W (W.putObj k o') := by
    intro W k o o' hk ho _ _
    have hkl := (Array.getElem?_eq_some_iff.1 ho).1
    exact ⟨(grownBy_putObj' W k o').block _ (by omega) (by intro e; injection e with e; omega), (grownBy_putObj' W k o').block _ (by omega) (by intro e; injection e with e; omega)⟩
  have hs78 : w7.heap.size < w8.heap.size := by omega
  have hseq : SeqStopsK Fence.wide (10 - 1) Tryd.prog 36 #[.pointer (some ⟨w7.heap.size, 0, none⟩)] (fun x : Fin M => #[.int .i64 ((M - 1 - x.val : Nat) : Int), vs.getD (M - 1 - x.val) undef]) (KpB w7.heap.size g1) (fun ys => ys.map Fin.val = List.range M) (fun ys => ys.map Fin.val = List.range ys.length) M w8 :=
    fun k J Jx W hW hJ _ hY h0 => backB_in 9 (by decide) M k w7.heap.size g1 c1 (by omega) hcap.1 hcap.2 vs hlv W J Jx (fun pre x W' hJ' hlen _ => hY pre x W' hJ' hlen) ((hW.cell (p := ⟨w7.heap.size, 0, none⟩) hs78).trans cb8) (fun i v hv => (hW.cell (p := ⟨g1, 0 + i, none⟩) hg18).trans (hrow8 i v hv)) (Nat.lt_of_lt_of_le hg18 hW.size) h0
  have HS8 := hid hseq
  have HKB := hid hKb
  have hg7w : w6.heap.size ≤ g7 := by omega
  have hg7l : g7 < w7.heap.size := by omega
  have HG7 := hid hg7
  have hg2 : g2 < w.heap.size := (HO2.out.lt g2 rfl).2
  have hlu : us.length = M := by have := HO2.out.1; omega
  have h06 := hb06.size
  have hbx4 : w.heap.size < w4.heap.size := by have := hb4.size; simp at this; omega
  have hbx6 : w.heap.size < w6.heap.size := Nat.lt_of_lt_of_le hbx4 hb46.size
  have cbx6 : w6.cell? ⟨w.heap.size, 0, none⟩ = some (.slice (some ⟨g2, 0, none⟩) M c2) := (hb46.cell (p := ⟨w.heap.size, 0, none⟩) hbx4).trans ((hb4.cell (p := ⟨w.heap.size, 0, none⟩) (by simp)).trans ((Blk.new w tBB #[.slice (some ⟨g2, 0, none⟩) M c2]).cell 0))
  have hrowu : ∀ i v, us[i]? = some v → w6.cell? ⟨g2, i, none⟩ = some v := by
    intro i v hv
    rcases own_rd HO2.out with h | ⟨b', off', he, _, hc'⟩
    · rw [h] at hv; cases hv
    · injection he with he
      injection he with e1 e2
      subst e1 e2
      have := (hb06.cell (p := ⟨g2, 0 + i, none⟩) hg2).trans (hc' i v hv)
      rwa [Nat.zero_add] at this
  have HRU := hid hrowu
  have hlv6 := hlv
  clear hrowu
  have HS78 := hid hs8
  clear hseq hKb hw8 hs7 hs8 hg7
  go_wp2_with fail
  refine wpIn_wide.1 (wpIn_rangeFunc_ownH (n := 10) (F := Fence.wide) rfl (by decide) (gf := 36) (lb := #[.pointer (some ⟨w7.heap.size, 0, none⟩)]) rfl trivial (enters_of Tryd.func36 (by kernel_rfl) rfl) HS8.out KpB.trans HKB.out (Below.refl _ _) (fun _ => rfl)
    (HiI l m g6 g7 w8.heap.size w6) (HiX l m vs us g6 g7 w8.heap.size w4) ?hI ?hIx ⟨fun y hy => (by simp at hy), hbk6, hbk7, bx_trans hbw7 hb78, Nat.le_refl _⟩
    (fun x a' W => a' = { tmps := #[.slice (some ⟨g1, 0, none⟩) M c1, .slice (some ⟨g2, 0, none⟩) M c2, undef, .pointer (some ⟨w.heap.size, 0, none⟩), .pointer (some ⟨g4, 0, none⟩), .bool false, .pointer (some ⟨g6, 0, none⟩), .pointer (some ⟨g7, 0, none⟩), .int .i64 ((M - 1 - x.val : Nat) : Int), vs.getD (M - 1 - x.val) undef, undef, .slice (some ⟨g1, 0, none⟩) M c1, .func (.func 36) #[] #[.pointer (some ⟨w7.heap.size, 0, none⟩)], .int .i64 ((M - 1 - x.val : Nat) : Int), vs.getD (M - 1 - x.val) undef, undef, undef, undef, undef, undef, undef, undef, undef, undef, undef, undef, undef, undef], defers := [] }) ?hAx ?assign ?body ?done ?stop)
  case hAx =>
    rintro x a' s X Y row e _ _
    exact e
  case assign =>
    rintro k pre x W K hI hK
    generalize vs.getD (M - 1 - x.val) undef = v at *
    generalize M - 1 - x.val = ix at *
    gi_wp2
    exact hK _ W ⟨Nat.le_refl _, fun q o _ hq _ => hq⟩ (KpB.refl _ _ _) hI rfl
  case hI =>
    intro s X Y row hs hg hr
    have key : ∀ {g t : Nat} {cs : Array Value}, Blk X g t cs → Blk Y g t cs := fun {g t cs} hb => (hg.block g hb.lt (fun e => by
      obtain ⟨_, o, ho, hc⟩ := hr g e.symm
      unfold Blk at hb
      rw [ho] at hb
      cases hb
      cases hc)).trans hb
    have h68 := (bx_trans hbw7 hb78).size
    exact ⟨hs.1, key hs.2.1, key hs.2.2.1, hs.2.2.2.1.grown hg hs.2.2.2.1.size (fun k e => by have := (hr k e).1; omega), Nat.le_trans hs.2.2.2.2 hg.size⟩
  case hIx =>
    intro cc s X Y row hs hg hr
    have key : ∀ {g t : Nat} {cs : Array Value}, Blk X g t cs → Blk Y g t cs := fun {g t cs} hb => (hg.block g hb.lt (fun e => by
      obtain ⟨_, o, ho, hc⟩ := hr g e.symm
      unfold Blk at hb
      rw [ho] at hb
      cases hb
      cases hc)).trans hb
    have h68 := (bx_trans hbw7 hb78).size
    have h46 := hb46.size
    obtain ⟨h1, q, h2, h3, h4, h5, h6, h7, h8⟩ := hs
    exact ⟨h1, q, h2, h3, h4, key h5, key h6, h7.grown hg h7.size (fun k e => by have := (hr k e).1; omega), Nat.le_trans h8 hg.size⟩
  case body =>
    rintro k pre x a' W hkl hlr ⟨hpre, ho6, ho7, hbW, h8W⟩ rfl hlen
    have hx := x.isLt
    have hbw := hb06.trans (hbW.mono hb06.size)
    have cbx := (hbW.cell (p := ⟨w.heap.size, 0, none⟩) hbx6).trans cbx6
    obtain ⟨ix, hix⟩ : ∃ ix, ix = M - 1 - x.val := ⟨_, rfl⟩
    rw [← hix]
    have hixM : ix < M := by omega
    have q1 : ix < vs.length := by rw [hlv6]; exact hixM
    have q2 : ix < us.length := by rw [hlu]; exact hixM
    have q3 : ix < l.length := by rw [HLL.out]; exact hixM
    have q4 : ix < m.length := by rw [HML.out]; exact hixM
    have cu := (hbW.cell (p := ⟨g2, ix, none⟩) (Nat.lt_of_lt_of_le hg2 h06)).trans (HRU.out ix us[ix] (List.getElem?_eq_getElem q2))
    obtain ⟨Av, cv, ev, _, _, rv⟩ := own_form (HR1.out ix vs[ix] l[ix] (List.getElem?_eq_getElem q1) (List.getElem?_eq_getElem q3))
    obtain ⟨Au, cu', eu, _, _, ru⟩ := own_form (HR2.out ix us[ix] m[ix] (List.getElem?_eq_getElem q2) (List.getElem?_eq_getElem q4))
    have HEV := hid (show vs.getD ix undef = vs[ix] by simp [List.getD, q1])
    have HEU := hid (show us.getD ix undef = us[ix] by simp [List.getD, q2])
    have HEL := hid (show l.getD ix [] = l[ix] by simp [List.getD, q3])
    have HEM := hid (show m.getD ix [] = m[ix] by simp [List.getD, q4])
    rw [HEV.out, ev]
    rw [eu] at cu
    have HQ := hid (Equal_any W (c := cv) (c' := cu') (rv.below hbw) (ru.below hbw))
    have HEV2 := hid (HEV.out.trans ev)
    have HEU2 := hid (HEU.out.trans eu)
    have HIX := hid hix
    have HPRE := hid hpre
    clear HEV HEU ev eu rv ru hix hpre
    generalize l[ix] = lv at *
    generalize m[ix] = mu at *
    by_cases heq : lv = mu
    · have hbt : (lv == mu) = true := by rw [heq]; simp
      have HEQ := hid heq
      clear heq
      gi_wp2_with (first
        | (refine ⟨trivial, ?_⟩; gi_at_call 19; refine (CallsIn.inRound k (callsIn_wide.2 HQ.out)).mono ?_; rintro e W1 ⟨rfl, hb1⟩))
      have hs1 := hb1.size
      refine ⟨⟨hs1, fun q o _ hq _ => (hb1.block q (Array.getElem?_eq_some_iff.1 hq).1).trans hq⟩, ⟨hb1.block _ (by omega), hb1.block _ (by omega)⟩, ?_, ho6.below hb1 ho6.lt, ho7.below hb1 ho7.lt, bx_trans hbW hb1, Nat.le_trans h8W hs1⟩
      intro y hy
      rcases List.mem_append.1 hy with h | h
      · exact HPRE.out y h
      · obtain rfl := List.mem_singleton.1 h
        rw [← HIX.out, HEL.out, HEM.out, HEQ.out]
    · have hbt : (lv == mu) = false := by simpa using heq
      have hne67 : g7 ≠ g6 := by omega
      have HEQ := hid heq
      clear heq
      gi_wp2_with (first
        | (refine wpListIn_build (wide_round k) rfl _ _ rfl [.slice Av lv.length cv, .slice Au mu.length cu'] rfl (bltCl _ _ _ _ _ _) ?_)
        | (refine wpListIn_store_agg (wide_round k) rfl _ _ _ rfl _ _ rfl #[.slice Av lv.length cv, .slice Au mu.length cu'] rfl (aggCl _ _) ho61 (Nat.le_refl _) (by intro v hv; simp at hv; rcases hv with rfl | rfl <;> rfl) ?_; intro W2 hp2; have ho72 := hp2.other ho71 hne67; have c72 := ho72.cell 0; have f72 := ho72.frozen 0)
        | (refine ⟨trivial, ?_⟩; gi_at_call 19; refine (CallsIn.inRound k (callsIn_wide.2 HQ.out)).mono ?_; rintro e W1 ⟨rfl, hb1⟩; have ho61 := ho6.below hb1 ho6.lt; have ho71 := ho7.below hb1 ho7.lt))
      have hp3 := setCell_put ho72 (i := 0) (.bool true)
      have hs1 := hb1.size
      have hs2 := hp2.size
      have hs3 := hp3.size
      refine ⟨⟨by omega, fun q o _ hq ho => ?_⟩, rfl, ix, ⟨pre, x, rfl, HIX.out, HPRE.out⟩, hixM, ?_, ?_, hp3.blk, ?_, by omega⟩
      · have n6 : q ≠ g6 := by
          rintro rfl
          have := ho6
          unfold Blk at this
          rw [hq] at this
          cases this
          cases ho
        have n7 : q ≠ g7 := by
          rintro rfl
          have := ho7
          unfold Blk at this
          rw [hq] at this
          cases this
          cases ho
        exact (hp3.oth q n7).trans ((hp2.oth q n6).trans ((hb1.block q (Array.getElem?_eq_some_iff.1 hq).1).trans hq))
      · rw [HEL.out, HEM.out]; exact HEQ.out
      · rw [HEV2.out, HEU2.out]
        exact hp3.other hp2.blk (by omega)
      · exact ((hb46.trans (hbW.mono hb46.size)).trans (hb1.mono (by omega))).trans ((hp2.below (by omega)).trans (hp3.below (by omega)))
  case done =>
    rintro D ys W hD hys ⟨heq, ho6, ho7, hbW, h8W⟩ hK
    go_wp2_with fail
    have ho4 := hz4.below (hb46.trans (hbW.mono hb46.size)) hz4.lt
    have hbF := hb04.trans ((hb46.trans (hbW.mono hb46.size)).mono hb04.size)
    have c70 := ho7.cell 0
    have hbd : Below W.heap.size W W.drew := bx_drew (Below.refl _ _)
    have ho4d := ho4.below hbd ho4.lt
    have ho6d := ho6.below hbd ho6.lt
    have ho7d := ho7.below hbd ho7.lt
    have ne46 : g6 ≠ g4 := by have := hz4.lt; omega
    have ne47 : g7 ≠ g4 := by have := hz4.lt; have := hb46.size; omega
    refine wp_flowK (by kernel_rfl) [0, 0, 1, 7] 3 [false, false, false, false, false, false, false, false, false, false, false, false, false, false, false, false, false, false, false, false, false, false, false, false, false, false, true, true] (by kernel_rfl) (by decide) (by kernel_rfl) [KP.eq (.agg #[nilC, nilC]), KP.eq (.bool false), KP.any] [2] (fun ks w' => match ks with | [some v] => Put W.drew w' g4 tCl #[nilC, nilC] | _ => w' = W.drew) ?_ ?_ ?_
    · exact rfl
    · refine allFrom_cons ?_ ?_
      · refine stepK_by (by decide) ?_
        intro f_ a_ w_ hM_ hk_
        have h6 : a_.eval (.tmp 6) = .pointer (some ⟨g6, 0, none⟩) := hk_.old 6 (by kernel_rfl)
        have k2 := hk_.later 2 _ (by kernel_rfl) rfl
        clear hk_
        refine flow_plain rfl ?_
        have hM := hM_
        simp only [List.map_cons, List.map_nil, k2] at hM
        have hb6_ : Blk w_ g6 tCl #[nilC, nilC] := by rw [show w_ = W.drew from hM]; exact ho6d
        exact gives_load_agg rfl h6 (aggCl _ _) (blk_cells hb6_) ⟨hM_, rfl⟩
      refine allFrom_cons ?_ ?_
      · refine stepK_by (by decide) ?_
        intro f_ a_ w_ hM_ hk_
        have h7 : a_.eval (.tmp 7) = .pointer (some ⟨g7, 0, none⟩) := hk_.old 7 (by kernel_rfl)
        clear hk_
        refine flow_plain rfl ?_
        have hM := hM_
        simp only [List.map_cons, List.map_nil] at hM
        refine gives_keep hM_ ?_
        unfold gives
        have hc_ : ∀ v, a_.eval (.const v) = v := fun _ => rfl
        have hn_ : ∀ f, a_.eval (.func f) = .func (.func f) #[] #[] := fun _ => rfl
        have c7_ : w_.cell? ⟨g7, 0, none⟩ = some (.bool false) := (by revert hM; cases f_ 2 with | none => exact fun hM => (by rw [show w_ = W.drew from hM]; exact ho7d.cell 0) | some v1 => exact fun hM => (Put.other hM ho7d ne47).cell 0)
        generalize a_.eval = ρ_ at *
        go_simp
        exact ⟨rfl, rfl⟩
      refine allFrom_cons ?_ ?_
      · intro f_ a_ w_ hM_ hk_
        have h4 : a_.eval (.tmp 4) = .pointer (some ⟨g4, 0, none⟩) := hk_.old 4 (by kernel_rfl)
        have h26 : a_.eval (.tmp 26) = (.agg #[nilC, nilC]) := hk_.got 0 26 _ (by kernel_rfl) rfl rfl
        have k2 : f_ 2 = none := hk_.un
        clear hk_
        simp only [List.map_cons, List.map_nil, k2] at hM_
        simp only [List.map_cons, List.map_nil, upd_same]
        refine flow_plain rfl ?_
        subst hM_
        exact gives_store_agg rfl h4 h26 (aggCl _ _) ho4d (Nat.le_refl _) (by intro v hv; simp at hv; rcases hv with rfl | rfl <;> rfl) fun w1 hp => ⟨hp, trivial⟩
      exact allFrom_nil
    intro f_ y_ w_ hM_ hf_ hd_
    have h26 : f_ 26 = (.agg #[nilC, nilC]) := (hf_ 0 26 _ (by decide) rfl rfl).1
    have h27 : f_ 27 = (.bool false) := (hf_ 1 27 _ (by decide) rfl rfl).1
    obtain ⟨x2, k2⟩ := hd_ 2 (by decide)
    simp only [List.map_cons, List.map_nil, k2] at hM_
    simp only [mix, List.drop_succ_cons, List.drop_zero, h26, h27]
    clear hf_ hd_ h26 h27 k2
    go_wp2_with fail
    have hDl := (Array.getElem?_eq_some_iff.1 hK).1
    have hne : D ≠ g4 := by have := hz4.lt; have := hb46.size; have := hb08.size; omega
    have hKd : W.drew.heap[D]? = some (.deferred (some [])) := (hbd.block D hDl).trans hK
    have hKq : w_.heap[D]? = some (.deferred (some [])) := (hM_.oth D hne).trans hKd
    have hg := grownBy_putObj' w_ D (.deferred none)
    have hbk2 : Blk (w_.putObj D (.deferred none)) g4 tCl #[nilC, nilC] := (hg.block g4 hM_.blk.lt (by intro e; injection e with e; exact hne e.symm)).trans hM_.blk
    have hb10 := bx_put (bx_trans hbF hbd) hM_ (Nat.le_trans hb1.size hg4)
    have hfin : Below w.heap.size w (w_.putObj D (.deferred none)) := hb10.grown hg hb10.size (fun k e => by cases e; have := hb08.size; omega)
    refine ⟨by simp, .inl ⟨_, _, rfl, run_takeDeferred hKq, ?_⟩⟩
    refine ⟨_, results_h2 (cs := [nilC, nilC]) rfl rfl (aggCl _ _) (blk_cells hbk2), hfin, .inl ⟨?_, rfl⟩⟩
    apply List.ext_getElem (by rw [HLL.out, HML.out])
    intro j hj1 hj2
    have hjm : M - 1 - j < ys.length := by
      have := congrArg List.length hys
      rw [List.length_map, List.length_range] at this
      have := HLL.out
      omega
    have hval : ys[M - 1 - j].val = M - 1 - j := by
      have : (ys.map Fin.val)[M - 1 - j]'(by rw [List.length_map]; exact hjm) = M - 1 - j := by
        simp only [hys, List.getElem_range]
      rwa [List.getElem_map] at this
    have := heq _ (List.getElem_mem hjm)
    have hjM : j < M := by rw [← HLL.out]; exact hj1
    rw [hval, show M - 1 - (M - 1 - j) = j by omega] at this
    simpa [List.getD, hj1, hj2] using this
  case stop =>
    rintro D cc pre W hD hys ⟨rfl, q, ⟨pr, x, rfl, hqx, hpr⟩, hqM, hne, ho6, ho7, hbW, h8W⟩ hK
    gi_wp2
    go_wp2_with fail
    obtain ⟨va, hva⟩ : ∃ v, v = vs.getD q undef := ⟨_, rfl⟩
    obtain ⟨vb, hvb⟩ : ∃ v, v = us.getD q undef := ⟨_, rfl⟩
    rw [← hva, ← hvb] at ho6
    have oa : va.oneCell' = true := by
      have q1 : q < vs.length := by rw [hlv6]; exact hqM
      have q3 : q < l.length := by rw [HLL.out]; exact hqM
      obtain ⟨Av, cv, ev, _, _, _⟩ := own_form (HR1.out q vs[q] l[q] (List.getElem?_eq_getElem q1) (List.getElem?_eq_getElem q3))
      rw [hva, show vs.getD q undef = vs[q] by simp [List.getD, q1], ev]
      rfl
    have ob : vb.oneCell' = true := by
      have q1 : q < us.length := by rw [hlu]; exact hqM
      have q3 : q < m.length := by rw [HML.out]; exact hqM
      obtain ⟨Av, cv, ev, _, _, _⟩ := own_form (HR2.out q us[q] m[q] (List.getElem?_eq_getElem q1) (List.getElem?_eq_getElem q3))
      rw [hvb, show us.getD q undef = us[q] by simp [List.getD, q1], ev]
      rfl
    have hne' := hne
    clear hne
    have ho4 := hz4.below hbW hz4.lt
    have hbF := hb04.trans (hbW.mono hb04.size)
    have c70 := ho7.cell 0
    have hbd : Below W.heap.size W W.drew := bx_drew (Below.refl _ _)
    have ho4d := ho4.below hbd ho4.lt
    have ho6d := ho6.below hbd ho6.lt
    have ho7d := ho7.below hbd ho7.lt
    have ne46 : g6 ≠ g4 := by have := hz4.lt; omega
    have ne47 : g7 ≠ g4 := by have := hz4.lt; have := hb46.size; omega
    refine wp_flowK (by kernel_rfl) [0, 0, 1, 7] 3 [false, false, false, false, false, false, false, false, false, false, false, false, false, false, false, false, false, false, false, false, false, false, false, false, false, false, true, true] (by kernel_rfl) (by decide) (by kernel_rfl) [KP.eq (.agg #[va, vb]), KP.eq (.bool true), KP.any] [2] (fun ks w' => match ks with | [some v] => Put W.drew w' g4 tCl #[va, vb] | _ => w' = W.drew) ?_ ?_ ?_
    · exact rfl
    · refine allFrom_cons ?_ ?_
      · refine stepK_by (by decide) ?_
        intro f_ a_ w_ hM_ hk_
        have h6 : a_.eval (.tmp 6) = .pointer (some ⟨g6, 0, none⟩) := hk_.old 6 (by kernel_rfl)
        have k2 := hk_.later 2 _ (by kernel_rfl) rfl
        clear hk_
        refine flow_plain rfl ?_
        have hM := hM_
        simp only [List.map_cons, List.map_nil, k2] at hM
        have hb6_ : Blk w_ g6 tCl #[va, vb] := by rw [show w_ = W.drew from hM]; exact ho6d
        exact gives_load_agg rfl h6 (aggCl va vb) (blk_cells hb6_) ⟨hM_, rfl⟩
      refine allFrom_cons ?_ ?_
      · refine stepK_by (by decide) ?_
        intro f_ a_ w_ hM_ hk_
        have h7 : a_.eval (.tmp 7) = .pointer (some ⟨g7, 0, none⟩) := hk_.old 7 (by kernel_rfl)
        clear hk_
        refine flow_plain rfl ?_
        have hM := hM_
        simp only [List.map_cons, List.map_nil] at hM
        refine gives_keep hM_ ?_
        unfold gives
        have hc_ : ∀ v, a_.eval (.const v) = v := fun _ => rfl
        have hn_ : ∀ f, a_.eval (.func f) = .func (.func f) #[] #[] := fun _ => rfl
        have c7_ : w_.cell? ⟨g7, 0, none⟩ = some (.bool true) := (by revert hM; cases f_ 2 with | none => exact fun hM => (by rw [show w_ = W.drew from hM]; exact ho7d.cell 0) | some v1 => exact fun hM => (Put.other hM ho7d ne47).cell 0)
        generalize a_.eval = ρ_ at *
        go_simp
        exact ⟨rfl, rfl⟩
      refine allFrom_cons ?_ ?_
      · intro f_ a_ w_ hM_ hk_
        have h4 : a_.eval (.tmp 4) = .pointer (some ⟨g4, 0, none⟩) := hk_.old 4 (by kernel_rfl)
        have h26 : a_.eval (.tmp 26) = (.agg #[va, vb]) := hk_.got 0 26 _ (by kernel_rfl) rfl rfl
        have k2 : f_ 2 = none := hk_.un
        clear hk_
        simp only [List.map_cons, List.map_nil, k2] at hM_
        simp only [List.map_cons, List.map_nil, upd_same]
        refine flow_plain rfl ?_
        subst hM_
        exact gives_store_agg rfl h4 h26 (aggCl va vb) ho4d (Nat.le_refl _) (by intro v hv; simp at hv; rcases hv with rfl | rfl <;> assumption) fun w1 hp => ⟨hp, trivial⟩
      exact allFrom_nil
    intro f_ y_ w_ hM_ hf_ hd_
    have h26 : f_ 26 = (.agg #[va, vb]) := (hf_ 0 26 _ (by decide) rfl rfl).1
    have h27 : f_ 27 = (.bool true) := (hf_ 1 27 _ (by decide) rfl rfl).1
    obtain ⟨x2, k2⟩ := hd_ 2 (by decide)
    simp only [List.map_cons, List.map_nil, k2] at hM_
    simp only [mix, List.drop_succ_cons, List.drop_zero, h26, h27]
    clear hf_ hd_ h26 h27 k2
    go_wp2_with fail
    have hDl := (Array.getElem?_eq_some_iff.1 hK).1
    have hne : D ≠ g4 := by have := hz4.lt; have := hb46.size; have := hb08.size; omega
    have hKd : W.drew.heap[D]? = some (.deferred (some [])) := (hbd.block D hDl).trans hK
    have hKq : w_.heap[D]? = some (.deferred (some [])) := (hM_.oth D hne).trans hKd
    have hg := grownBy_putObj' w_ D (.deferred none)
    have hbk2 : Blk (w_.putObj D (.deferred none)) g4 tCl #[va, vb] := (hg.block g4 hM_.blk.lt (by intro e; injection e with e; exact hne e.symm)).trans hM_.blk
    have hb10 := bx_put (bx_trans hbF hbd) hM_ (Nat.le_trans hb1.size hg4)
    have hfin : Below w.heap.size w (w_.putObj D (.deferred none)) := hb10.grown hg hb10.size (fun k e => by cases e; have := hb08.size; omega)
    refine ⟨by simp, .inl ⟨_, _, rfl, run_takeDeferred hKq, ?_⟩⟩
    refine ⟨_, results_h2 (cs := [va, vb]) rfl rfl (aggCl va vb) (blk_cells hbk2), hfin, .inr ⟨q, by rw [HLL.out]; exact hqM, hne', ?_, by rw [← hva, ← hvb]; rfl⟩⟩
    intro j hj1 hj2
    have hjM : j < M := by rw [← HLL.out]; exact hj2
    have hpl : pr.length = x.val := by
      have h := hys
      rw [List.map_append, List.length_append, List.map_cons, List.map_nil] at h
      have h2 : (pr.map Fin.val ++ [x.val])[pr.length]'(by simp) = pr.length := by
        simp only [h, List.getElem_range]
      rw [List.getElem_append_right (by simp)] at h2
      simpa using h2.symm
    have hjm : M - 1 - j < pr.length := by have := x.isLt; omega
    have hval : pr[M - 1 - j].val = M - 1 - j := by
      have h := hys
      rw [List.map_append, List.length_append, List.map_cons, List.map_nil] at h
      have h2 : (pr.map Fin.val ++ [x.val])[M - 1 - j]'(by simp; omega) = M - 1 - j := by
        simp only [h, List.getElem_range]
      rw [List.getElem_append_left (by rw [List.length_map]; exact hjm), List.getElem_map] at h2
      exact h2
    have := hpr _ (List.getElem_mem hjm)
    rwa [hval, show M - 1 - (M - 1 - j) = j by omega] at this
end
end Go.Proofs.YtgaefejblmnklaaDoor
