
/- A frontier: Root; slices.Backward. -/
import Derived.Test.YtohkfnmggmlogaaDoorFrC
namespace Go.Proofs.YtohkfnmggmlogaaDoor
open Go.RowKit
set_option linter.unusedVariables false
set_option maxHeartbeats 1000000 in
theorem Backward_any (w : World) (A : Option Addr) (n c : Nat) : Calls Tryd.prog 27 #[.slice A n c] w fun e w' => e = .returned (.func (.func 36) #[] #[.pointer (some ⟨w.heap.size, 0, none⟩)]) ∧ w' = w.alloc (.cells #[.slice A n c] 23) := by
  go_enter Tryd.func27, Tryd.ntmps27
  go_wp2
  go_ret
  exact ⟨rfl, rfl⟩
attribute [local go_sem] Oper.semAt_some
set_option maxRecDepth 100000 in
set_option maxHeartbeats 1000000 in
theorem back1_in (n : Nat) (hn : 1 ≤ n) (m l Bs g cap : Nat) (hm : m ≤ 1000000) (hcap : m ≤ cap) (hcap2 : cap ≤ 9223372036854775807) (hs : List (List UInt8)) (hsl : hs.length = m) (h32 : ∀ h ∈ hs, h.length = 32) (W : World) (J Jx : List (Fin m) → World → Prop)
    (hY : ∀ pre x W', J pre W' → pre.length < m → pre.length = x.val → YieldAt Fence.wide (n - 1) Tryd.prog l #[.int .i64 ((m - 1 - x.val : Nat) : Int), .agg (((hs.getD (m - 1 - x.val) []).map cb).toArray)] W' fun e W'' =>
      (e = .returned (.bool true) ∧ J (pre ++ [x]) W'' ∧ KpB Bs g W' W'') ∨ (e = .returned (.bool false) ∧ Jx (pre ++ [x]) W''))
    (hbs : W.cell? ⟨Bs, 0, none⟩ = some (.slice (some ⟨g, 0, none⟩) m cap)) (hrow : ∀ i v, (hs.flatten.map cb)[i]? = some v → W.cell? ⟨g, 0 + i, none⟩ = some v) (hg : g < W.heap.size) (h0 : J [] W) :
    CallsIn Fence.wide n Tryd.prog 36 #[.func (.yield l) #[] #[], .pointer (some ⟨Bs, 0, none⟩)] W fun e W' => (∃ v, e = .returned v) ∧
      ((∃ ys : List (Fin m), ys.map Fin.val = List.range m ∧ J ys W') ∨ (∃ pre, True ∧ Jx pre W')) := by
  have HY := hid hY
  have HR := hid hrow
  have H32 := hid h32
  have HSL := hid hsl
  clear hY hrow h32 hsl
  refine callsIn_of_wp Tryd.func36 rfl trivial ?_ rfl
  simp only [Tryd.ntmps36, List.size_toArray, List.length_cons, List.length_nil, Nat.reduceAdd, Nat.reduceSub, Array.replicate_succ, Array.replicate_zero, List.push_toArray, List.append_toArray, List.nil_append, List.cons_append]
  gi_wp2
  gi_loopw [3] (fun i wr => ∃ (k : Nat) (pre : List (Fin m)), k ≤ m ∧ i = .int .i64 ((m : Int) - 1 - (k : Int)) ∧ pre.map Fin.val = List.range k ∧ J pre wr ∧ KpB Bs g W wr)
    (fun i _ => (intOf i + 1).toNat)
  case atStart => exact ⟨0, [], Nat.zero_le _, by go_num, rfl, h0, KpB.refl _ _ _⟩
  case round =>
    obtain ⟨k, pre, hk', rfl, hpre, hJs, hnx⟩ := hrel
    rename World => wr
    have hcs := hnx.s.trans hbs
    have hpl : pre.length = k := by rw [← List.length_map (f := Fin.val), hpre, List.length_range]
    by_cases hlt : k < m
    · obtain ⟨a, ha⟩ : ∃ a, a = m - 1 - k := ⟨_, rfl⟩
      have hae : (m : Int) - 1 - (k : Int) = (a : Int) := by omega
      rw [hae]
      have ham : a < m := by omega
      obtain ⟨fn, tmps, assign, body, hy, hR⟩ := HY.out pre ⟨k, hlt⟩ wr hJs (by omega) hpl
      simp only [← ha] at hy
      have hal : a < hs.length := by rw [HSL.out]; exact ham
      have hgd : hs.getD a [] = hs[a] := by simp [List.getD, hal]
      rw [hgd] at hy
      have h32a := H32.out hs[a] (List.getElem_mem hal)
      have hwrow : ∀ j v, (hs[a].map cb)[j]? = some v → wr.cell? ⟨g, a * 32 + j, none⟩ = some v := by
        intro j v hv
        have hrd : Rd W (g + 1) (some ⟨g, 0, none⟩) (hs.flatten.map cb) := .inr ⟨g, 0, rfl, by omega, HR.out⟩
        have := (rd_hash hrd H32.out a hal).2 j v hv
        rw [Nat.zero_add] at this
        exact (World.cell?_of_block hnx.2).trans this
      generalize hs[a] = h at *
      have hah := aggHL h32a
      have HA := hid ha
      clear ha hgd hal hJs
      gi_wp2_with (first
        | (refine wpListIn_load_agg (fun _ => trivial) rfl _ _ rfl _ _ rfl (h.map cb) hah hwrow ?_))
      refine hR.mono ?_
      rintro e W3 (⟨rfl, hJ3, hk3⟩ | ⟨rfl, hJx3⟩)
      · have hB3 := hnx.trans hk3
        clear hnx hk3 hcs hwrow hy hR
        gi_wp2
        go_roundw
        case rel => exact ⟨k + 1, pre ++ [⟨k, hlt⟩], by omega, by congr 1; omega, by rw [List.map_append, hpre, List.range_succ]; rfl, hJ3, hB3⟩
        case measure => simp [intOf]
      · clear hnx hcs hwrow hy hR
        gi_wp2
        refine bodyPost_ret (results_none rfl _ _ _) rfl ?_
        exact ⟨⟨_, rfl⟩, .inr ⟨_, trivial, hJx3⟩⟩
    · obtain rfl : k = m := by omega
      have hneg : (k : Int) - 1 - (k : Int) = -1 := by omega
      rw [hneg]
      gi_wp2
      go_end0
      exact ⟨⟨_, rfl⟩, .inl ⟨_, hpre, hJs⟩⟩
theorem wpListIn_alloc {F : Fence} (hF : ∀ f, F.fn f) {n : Nat} {P : Program} {ops : Array Oper} {rest : List Oper} {o : Oper} {a : Act} {w : World} {Q : Exit → Act → World → Prop} (hgd : o.guard = none) (e : TypeId) (ho : o.op = .alloc e) {z : Value} (hz : ZeroT P e z)
    (h : ∀ g w1, w.heap.size ≤ g → g < w1.heap.size → Blk w1 g e z.cells → Below w.heap.size w w1 → wpListIn F n P ops Q rest (a.put o.dst (.pointer (some ⟨g, 0, none⟩))) w1) : wpListIn F n P ops Q (o :: rest) a w :=
  wpListIn_plain hgd fun _ hK => by
    refine ⟨fun f _ => hF f, ?_⟩
    rw [semAt_exec _ (by rw [ho]; intro c; exact nofun), gives_alloc_run e ho hz]
    exact hK _ _ (h w.heap.size _ (Nat.le_refl _) (by simp) (Blk.new w e z.cells) (bx_alloc (Below.refl _ _) _))
set_option maxRecDepth 100000 in
set_option maxHeartbeats 1000000 in
theorem Root_zero (w : World) (hL : Laid w) (p : Option Addr) (hS : ∀ w', Below w.heap.size w w' → Calls Tryd.prog 13 #[.pointer p] w' fun e w'' => e = .returned (.int .u64 0) ∧ w'' = w') :
    Calls Tryd.prog 16 #[.pointer p] w fun e w' => e = .returned (.agg ((shaL []).map cb).toArray) ∧ Below w.heap.size w w' := by
  have HL := hid hL
  have HS := hid hS
  have h32 := shaL_len []
  clear hL hS
  refine callsIn_wide.1 (callsIn_of_wp_marks (n := 10) Tryd.func16 rfl trivial (wpIn_wide.2 ?_) rfl)
  simp only [Tryd.ntmps16, List.size_toArray, List.length_cons, List.length_nil, Nat.reduceAdd, Nat.reduceSub, Array.replicate_succ, Array.replicate_zero, List.push_toArray, List.append_toArray, List.nil_append, List.cons_append]
  have hb1 : Below w.heap.size w (w.alloc (.cells #[.pointer p] 27)) := bx_alloc (Below.refl _ _) _
  go_wp2_with ((with_reducible refine wpAtC ?_); refine wpList_alloc (w := w.alloc (.cells #[.pointer p] 27)) rfl _ rfl zeroH ?_; intro g2 w2 hg2 hg2' hz2 hb2; have c1 : w2.cell? ⟨w.heap.size, 0, none⟩ = some (.pointer p) := (hb2.cell (p := ⟨w.heap.size, 0, none⟩) (by simp)).trans ((Blk.new w 27 #[.pointer p]).cell 0); simp only [Act.put, List.setIfInBounds_toArray, List.set_cons_succ, List.set_cons_zero])
  have hb02 := hb1.trans (hb2.mono hb1.size)
  refine (HS.out w2 hb02).mono ?_
  rintro e w3 ⟨rfl, rfl⟩
  go_wp2_with fail
  refine (Of_any _ (HL.out.below hb02) (A := none) (c := 0) (B' := 0) (ls := []) (.inl rfl) (Nat.zero_le _) (by simp) (by simp)).mono ?_
  rintro e w5 ⟨rfl, hb5⟩
  rw [show ([] : List (List UInt8)).flatten = [] from rfl]
  obtain ⟨H, hH⟩ : ∃ H, H = shaL [] := ⟨_, rfl⟩
  rw [← hH] at h32 ⊢
  have HH := hid hH
  clear hH
  have hz5 := hz2.below hb5 hz2.lt
  have hb05 := bx_trans hb02 hb5
  have hg2w : w.heap.size ≤ g2 := Nat.le_trans hb1.size hg2
  go_wp2_with ((with_reducible refine wpAtC ?_); refine wpList_store_agg rfl _ _ _ rfl _ _ rfl (H.map cb).toArray rfl (aggHS h32) hz5 (szH h32) (one_cbA H) ?_; intro w6 hput; simp only [Act.put]; rw [splH h32] at hput)
  exact ⟨_, results_agg (cs := H.map cb) rfl rfl (aggHL h32) (blk_cells hput.blk), by rw [HH.out], bx_put hb05 hput hg2w⟩
/-- The root of the first peaks, counted from the last; noughts of none. -/
def frootZ : List (List UInt8) → List UInt8
  | [] => List.replicate 32 0
  | p :: r => r.foldl (fun x q => nodeL q x) p
theorem frootZ_len (st : List (List UInt8)) (h : ∀ p ∈ st, p.length = 32) : (frootZ st).length = 32 := by
  cases st with
  | nil => rfl
  | cons p r => exact froot_len (p :: r) h
theorem frootZ_snoc (st : List (List UInt8)) (h : st ≠ []) (q : List UInt8) : frootZ (st ++ [q]) = nodeL q (frootZ st) := by
  cases st with
  | nil => exact absurd rfl h
  | cons p r =>
    show (r ++ [q]).foldl _ p = _
    rw [List.foldl_append]
    rfl
theorem rev_getD {st : List (List UInt8)} {m x : Nat} (hm : st.length = m) (hx : x < m) : st.reverse.getD (m - 1 - x) [] = st.getD x [] := by
  have h1 : m - 1 - x < st.reverse.length := by rw [List.length_reverse]; omega
  have h2 : x < st.length := by omega
  rw [List.getD_eq_getElem?_getD, List.getD_eq_getElem?_getD, List.getElem?_eq_getElem h1, List.getElem?_eq_getElem h2, List.getElem_reverse]
  simp only [Option.getD_some]
  congr 1
  omega
theorem getD_32 {st : List (List UInt8)} {x : Nat} (h : ∀ p ∈ st, p.length = 32) (hx : x < st.length) : (st.getD x []).length = 32 := by
  rw [List.getD_eq_getElem?_getD, List.getElem?_eq_getElem hx]
  exact h _ (List.getElem_mem hx)
def stepF (st : List (List UInt8)) (h : List UInt8) (x : Nat) : List UInt8 := if x = 0 then st.getD 0 [] else nodeL (st.getD x []) h
def curF (st : List (List UInt8)) (l : List Nat) : List UInt8 := l.foldl (stepF st) (List.replicate 32 0)
theorem curF_snoc (st : List (List UInt8)) (l : List Nat) (x : Nat) : curF st (l ++ [x]) = stepF st (curF st l) x := by
  unfold curF
  rw [List.foldl_append]
  rfl
theorem stepF_len {st : List (List UInt8)} (h32 : ∀ p ∈ st, p.length = 32) (h : List UInt8) {x : Nat} (hx : x < st.length) : (stepF st h x).length = 32 := by
  unfold stepF
  split
  · have h0 : 0 < st.length := by omega
    rw [show st.getD 0 [] = st[0] by simp [List.getD, h0]]
    exact h32 _ (List.getElem_mem h0)
  · exact nodeL_len _ _
theorem curF_len {st : List (List UInt8)} (h32 : ∀ p ∈ st, p.length = 32) : ∀ (l : List Nat) (h : List UInt8), h.length = 32 → (∀ x ∈ l, x < st.length) → (l.foldl (stepF st) h).length = 32
  | [], h, hh, _ => hh
  | x :: l, h, hh, hl => curF_len h32 l _ (stepF_len h32 h (hl x (List.mem_cons_self ..))) (fun y hy => hl y (List.mem_cons_of_mem _ hy))
theorem curF_range (st : List (List UInt8)) : ∀ k, k ≤ st.length → curF st (List.range k) = frootZ (st.take k)
  | 0, _ => by rw [List.take_zero]; rfl
  | k + 1, hk => by
    have hkl : k < st.length := by omega
    rw [List.range_succ, curF_snoc, curF_range st k (by omega), List.take_succ_eq_append_getElem hkl]
    unfold stepF
    by_cases h0 : k = 0
    · subst h0
      rw [if_pos rfl, List.take_zero, show st.getD 0 [] = st[0] by simp [List.getD, hkl]]
      rfl
    · rw [if_neg h0, frootZ_snoc _ (by intro e; have := congrArg List.length e; rw [List.length_take, List.length_nil] at this; omega), show st.getD k [] = st[k] by simp [List.getD, hkl]]
set_option maxRecDepth 100000 in
set_option maxHeartbeats 2000000 in
theorem Root_some (w : World) (hL : Laid w) {B g n m : Nat} {st : List (List UInt8)} {A : Option Addr} {c : Nat} (hF : IsF w B g n st A c) (h0 : st ≠ []) (hn : n ≠ 0) (hm : st.length = m) (hm6 : m ≤ 1000000) :
    Calls Tryd.prog 16 #[.pointer (some ⟨g, 0, none⟩)] w fun e w' => e = .returned (.agg ((froot st).map cb).toArray) ∧ Below w.heap.size w w' := by
  have HL := hid hL
  have HF := hid hF
  have hm1 : 1 ≤ m := by rw [← hm]; exact List.length_pos_iff.2 h0
  have hfz : froot st = frootZ st := by cases st with | nil => exact absurd rfl h0 | cons p r => rfl
  rw [hfz]
  have HS := hid (fun w' (hb : Below w.heap.size w w') => Size_any w' (hF.below hb))
  have hne : ¬ (n : Int) = 0 := by omega
  have hgl := hF.blk.lt
  have hblk := hF.blk
  have hown := hF.own
  rw [hm] at hblk hown
  obtain ⟨gp, cp, eA, hgp, hgp', hcp, hcm⟩ := own_block hown hm1
  injection eA with eA _ ec
  subst eA ec
  have HM := hid hm
  have H32 := hid hF.ok
  have hrd := own_rd hown
  have HRD := hid hrd
  have HB := hid hblk
  have hrl : st.reverse.length = m := by rw [List.length_reverse, hm]
  have HRL := hid hrl
  clear hL hfz hrd hblk hown hF hrl hm h0
  refine callsIn_wide.1 (callsIn_of_wp_marks (n := 10) Tryd.func16 rfl trivial (wpIn_wide.2 ?_) rfl)
  simp only [Tryd.ntmps16, List.size_toArray, List.length_cons, List.length_nil, Nat.reduceAdd, Nat.reduceSub, Array.replicate_succ, Array.replicate_zero, List.push_toArray, List.append_toArray, List.nil_append, List.cons_append]
  have hb1 : Below w.heap.size w (w.alloc (.cells #[.pointer (some ⟨g, 0, none⟩)] 27)) := bx_alloc (Below.refl _ _) _
  go_wp2_with ((with_reducible refine wpAtC ?_); refine wpList_alloc (w := w.alloc (.cells #[.pointer (some ⟨g, 0, none⟩)] 27)) rfl _ rfl zeroH ?_; intro g2 w2 hg2 hg2' hz2 hb2; have c1 : w2.cell? ⟨w.heap.size, 0, none⟩ = some (.pointer (some ⟨g, 0, none⟩)) := (hb2.cell (p := ⟨w.heap.size, 0, none⟩) (by simp)).trans ((Blk.new w 27 #[.pointer (some ⟨g, 0, none⟩)]).cell 0); simp only [Act.put, List.setIfInBounds_toArray, List.set_cons_succ, List.set_cons_zero])
  have hb02 := hb1.trans (hb2.mono hb1.size)
  refine (HS.out w2 hb02).mono ?_
  rintro e w3 ⟨rfl, rfl⟩
  have hg2w : w.heap.size ≤ g2 := Nat.le_trans hb1.size hg2
  have hB2 : w.heap.size < w3.heap.size := by have := hb2.size; simp at this; omega
  have hgs := Nat.lt_of_lt_of_le hgl hb02.size
  have cg : w3.cell? ⟨g, 1, none⟩ = some (.slice (some ⟨gp, 0, none⟩) m c) := (hb02.cell (p := ⟨g, 1, none⟩) hgl).trans (HB.out.cell 1)
  clear hb1 hb2
  go_wp2_with ((with_reducible refine wpAtC ?_); refine wpList_alloc rfl _ rfl zeroH ?_; intro g3 w4 hg3 hg3' hz3 hb3; have c14 := (hb3.cell (p := ⟨w.heap.size, 0, none⟩) hB2).trans c1; have cg4 := (hb3.cell (p := ⟨g, 1, none⟩) hgs).trans cg; simp only [Act.put, List.setIfInBounds_toArray, List.set_cons_succ, List.set_cons_zero])
  refine (Backward_any w4 _ _ _).mono ?_
  rintro e w5 ⟨rfl, hw5⟩
  have hz5 : Blk w5 g3 tHa (Value.agg (List.replicate 32 (cb 0)).toArray).cells := by rw [hw5]; exact hz3.alloc _
  have cb5 : w5.cell? ⟨w4.heap.size, 0, none⟩ = some (.slice (some ⟨gp, 0, none⟩) m c) := by rw [hw5]; exact (Blk.new w4 23 #[.slice (some ⟨gp, 0, none⟩) m c]).cell 0
  have hb35 : Below w3.heap.size w3 w5 := by rw [hw5]; exact bx_alloc hb3 _
  have hs45 : w4.heap.size < w5.heap.size := by rw [hw5]; simp
  have hgp3 : gp < w3.heap.size := Nat.lt_of_lt_of_le hgp' hb02.size
  have hgp5 : gp < w5.heap.size := Nat.lt_of_lt_of_le hgp3 hb35.size
  have hrow3 : ∀ i v, (st.reverse.flatten.map cb)[i]? = some v → w3.cell? ⟨gp, 0 + i, none⟩ = some v := by
    intro i v hv
    rcases HRD.out with h | ⟨b', off', he, _, hc'⟩
    · rw [h] at hv; cases hv
    · injection he with he
      injection he with e1 e2
      subst e1 e2
      exact (hb02.cell (p := ⟨gp, 0 + i, none⟩) hgp').trans (hc' i v hv)
  have hKb : ∀ (W : World) (k : Nat) (o o' : Obj), w5.heap.size ≤ k → W.heap[k]? = some o → o.isCells = false → o.isWalk = false → KpB w4.heap.size gp W (W.putObj k o') := by
    intro W k o o' hk ho _ _
    have hkl := (Array.getElem?_eq_some_iff.1 ho).1
    exact ⟨(grownBy_putObj' W k o').block _ (by omega) (by intro e; injection e with e; omega), (grownBy_putObj' W k o').block _ (by omega) (by intro e; injection e with e; omega)⟩
  have hseq : SeqStopsK Fence.wide (10 - 1) Tryd.prog 36 #[.pointer (some ⟨w4.heap.size, 0, none⟩)] (fun x : Fin m => #[.int .i64 ((m - 1 - x.val : Nat) : Int), .agg (((st.getD x.val []).map cb).toArray)]) (KpB w4.heap.size gp) (fun ys => ys.map Fin.val = List.range m) (fun _ => True) m w5 :=
    fun k J Jx W hW hJ _ hY h0 => back1_in 9 (by decide) m k w4.heap.size gp c hm6 hcp hcm st.reverse HRL.out (fun p hp => H32.out p (List.mem_reverse.1 hp)) W J Jx (fun pre x W' hJ' hlen _ => by rw [rev_getD HM.out x.isLt]; exact hY pre x W' hJ' hlen) ((hW.cell (p := ⟨w4.heap.size, 0, none⟩) hs45).trans cb5) (fun i v hv => (hW.cell (p := ⟨gp, 0 + i, none⟩) hgp5).trans ((hb35.cell (p := ⟨gp, 0 + i, none⟩) hgp3).trans (hrow3 i v hv))) (Nat.lt_of_lt_of_le hgp5 hW.size) h0
  have hblk5 : Blk w5 g3 tHa ((curF st []).map cb).toArray := hz5
  have hg35 : g3 < w5.heap.size := hz5.lt
  have HS5 := hid hseq
  have HKB := hid hKb
  have HW5 := hid hw5
  clear hseq hKb hz3 hb3 c14 cg4 hrow3 hw5 cb5 hz5
  go_wp2_with fail
  refine wpIn_wide.1 (wpIn_rangeFunc_ownH (n := 10) (F := Fence.wide) rfl (by decide) (gf := 36) (lb := #[.pointer (some ⟨w4.heap.size, 0, none⟩)]) rfl trivial (enters_of Tryd.func36 (by kernel_rfl) rfl) HS5.out KpB.trans HKB.out (Below.refl _ _) (fun _ => rfl)
    (fun pre W => Blk W g3 tHa ((curF st (pre.map Fin.val)).map cb).toArray ∧ Below w3.heap.size w3 W ∧ w5.heap.size ≤ W.heap.size) (fun _ _ _ => False) ?hI (fun _ _ _ _ _ h _ _ => h) ⟨hblk5, hb35, Nat.le_refl _⟩
    (fun x a' W => ∃ g5, a' = { tmps := #[.pointer (some ⟨g, 0, none⟩), .pointer (some ⟨w.heap.size, 0, none⟩), .pointer (some ⟨g2, 0, none⟩), .pointer (some ⟨g3, 0, none⟩), .int .i64 ((m - 1 - x.val : Nat) : Int), .pointer (some ⟨g5, 0, none⟩), .pointer (some ⟨g, 0, none⟩), .int .u64 (n : Int), .bool false, undef, .pointer (some ⟨g, 0, none⟩), .pointer (some ⟨g, 0, none⟩), .pointer (some ⟨g, 1, none⟩), .slice (some ⟨gp, 0, none⟩) m c, .func (.func 36) #[] #[.pointer (some ⟨w4.heap.size, 0, none⟩)], .int .i64 ((m - 1 - x.val : Nat) : Int), .agg (((st.getD x.val []).map cb).toArray), undef, undef, undef, undef, undef, undef, undef, undef, undef, undef, undef, undef, undef], defers := [] } ∧ Blk W g5 tHa (((st.getD x.val []).map cb).toArray) ∧ w5.heap.size ≤ g5) ?hAx ?assign ?body ?done ?stop)
  case hAx =>
    rintro x a' s X Y row ⟨g5, e5, hb5, hg5⟩ hg hr
    refine ⟨g5, e5, (hg.block g5 hb5.lt (fun e => ?_)).trans hb5, hg5⟩
    obtain ⟨_, o, ho, hc⟩ := hr g5 e.symm
    unfold Blk at hb5
    rw [ho] at hb5
    cases hb5
    cases hc
  case assign =>
    rintro k pre x W K ⟨hbk, hbw, h5W⟩ hK
    have h32x := getD_32 (x := x.val) H32.out (by rw [HM.out]; exact x.isLt)
    generalize st.getD x.val [] = hx at *
    generalize m - 1 - x.val = ix at *
    gi_wp2_with (first
      | (refine wpListIn_alloc (wide_round k) rfl _ rfl zeroH ?_; intro g5 W1 hg5 hg5' hz5 hb5)
      | (refine wpListIn_store_agg (wide_round k) rfl _ _ _ rfl _ _ rfl (hx.map cb).toArray rfl (aggHS h32x) hz5 (szH h32x) (one_cbA hx) ?_; intro W2 hp2; rw [splH h32x] at hp2))
    have hg3W := hbk.lt
    have hs1 := hb5.size
    have hs2 := hp2.size
    refine hK _ W2 ⟨by omega, fun q o _ hq ho => ?_⟩ ⟨?_, ?_⟩ ⟨?_, ?_, by omega⟩ ⟨g5, rfl, hp2.blk, by omega⟩
    · have hqW := (Array.getElem?_eq_some_iff.1 hq).1
      exact (hp2.oth q (by omega)).trans ((hb5.block q hqW).trans hq)
    · exact (hp2.oth _ (by omega)).trans (hb5.block _ (by omega))
    · exact (hp2.oth _ (by omega)).trans (hb5.block _ (by omega))
    · exact hp2.other (hbk.below hb5 hbk.lt) (by omega)
    · exact (hbw.trans (hb5.mono hbw.size)).trans (hp2.below (by have := hbw.size; omega))
  case stop =>
    intro D cc pre W _ _ h _
    exact h.elim
  case hI =>
    intro s X Y row hs hg hr
    refine ⟨(hg.block g3 hs.1.lt (fun e => ?_)).trans hs.1, hs.2.1.grown hg hs.2.1.size (fun k e => ?_), Nat.le_trans hs.2.2 hg.size⟩
    · obtain ⟨_, o, ho, hc⟩ := hr g3 e.symm
      have := hs.1
      unfold Blk at this
      rw [ho] at this
      cases this
      cases hc
    · have := (hr k e).1
      have := hb35.size
      omega
  case body =>
    rintro k pre x a' W hkl hlr ⟨hbk, hbw, h5W⟩ ⟨g5, rfl, hb5, hg5⟩ hlen
    have cbW := (hbw.cell (p := ⟨w.heap.size, 0, none⟩) hB2).trans c1
    have cgW := (hbw.cell (p := ⟨g, 1, none⟩) hgs).trans cg
    have hxl : x.val < st.length := by rw [HM.out]; exact x.isLt
    have h32x := getD_32 (x := x.val) H32.out hxl
    have hsn := curF_snoc st (pre.map Fin.val) x.val
    rw [show pre.map Fin.val ++ [x.val] = (pre ++ [x]).map Fin.val by rw [List.map_append]; rfl] at hsn
    have hcl := stepF_len H32.out (curF st (pre.map Fin.val)) hxl
    have HSN := hid hsn
    have hLW := (HL.out.below hb02).below hbw
    have hne35 : g3 ≠ g5 := by have := hbk.lt; omega
    have hix : ((m - 1 - x.val : Nat) : Int) = (m : Int) - 1 - (x.val : Int) := by have := x.isLt; omega
    obtain ⟨ix, hixe⟩ : ∃ ix, ix = m - 1 - x.val := ⟨_, rfl⟩
    rw [← hixe] at hix ⊢
    have hpcl : (curF st (pre.map Fin.val)).length = 32 := curF_len H32.out _ _ rfl (fun y hy => by
      obtain ⟨z, _, rfl⟩ := List.mem_map.1 hy
      rw [HM.out]; exact z.isLt)
    by_cases hx0 : x.val = 0
    · have hst : stepF st (curF st (pre.map Fin.val)) x.val = st.getD x.val [] := by unfold stepF; rw [if_pos hx0, hx0]
      rw [hst] at HSN hcl
      have hbt : ((ix : Int) == (m : Int) - 1) = true := by simp; omega
      generalize curF st (pre.map Fin.val) = S at *
      generalize st.getD x.val [] = hx at *
      have hah := aggHL h32x
      have hcx := blk_cells hb5
      clear hsn hst hix
      gi_wp2_with (first
        | (refine wpListIn_load_agg (wide_round k) rfl _ _ rfl _ _ rfl (hx.map cb) hah hcx ?_)
        | (refine wpListIn_store_agg (wide_round k) rfl _ _ _ rfl _ _ rfl (hx.map cb).toArray rfl (aggHS h32x) hbk (by rw [List.size_toArray, List.size_toArray, List.length_map, List.length_map]; omega) (one_cbA hx) ?_; intro W2 hp2))
      rw [show spl (S.map cb).toArray 0 (hx.map cb).toArray.toList = (hx.map cb).toArray from spl_whole (by rw [List.size_toArray, List.size_toArray, List.length_map, List.length_map]; omega)] at hp2
      have hg3W := hbk.lt
      refine ⟨⟨by rw [hp2.size]; exact Nat.le_refl _, fun q o _ hq ho => ?_⟩, ⟨?_, ?_⟩, ?_, ?_, by rw [hp2.size]; exact h5W⟩
      · have hne : q ≠ g3 := by
          intro e
          subst e
          have := hbk
          unfold Blk at this
          rw [hq] at this
          cases this
          cases ho
        exact (hp2.oth q hne).trans hq
      · exact hp2.oth _ (by omega)
      · exact hp2.oth _ (by omega)
      · rw [HSN.out]; exact hp2.blk
      · exact hbw.trans (hp2.below hg3)
    · have hst : stepF st (curF st (pre.map Fin.val)) x.val = shaL (1 :: (st.getD x.val [] ++ curF st (pre.map Fin.val))) := by unfold stepF; rw [if_neg hx0]; rfl
      rw [hst] at HSN hcl
      have hbt : ((ix : Int) == (m : Int) - 1) = false := by simp; omega
      have HND := hid (Node_any W hLW h32x hpcl)
      generalize curF st (pre.map Fin.val) = S at *
      generalize st.getD x.val [] = hx at *
      generalize shaL (1 :: (hx ++ S)) = N at *
      have hah := aggHL h32x
      have hcx := blk_cells hb5
      have hah2 := aggHL hpcl
      have hcx2 := blk_cells hbk
      clear hsn hst hix
      gi_wp2_with (first
        | (refine wpListIn_load_agg (wide_round k) rfl _ _ rfl _ _ rfl (hx.map cb) hah hcx ?_)
        | (refine wpListIn_load_agg (wide_round k) rfl _ _ rfl _ _ rfl (S.map cb) hah2 hcx2 ?_)
        | (refine ⟨trivial, ?_⟩; gi_at_call 28; refine (CallsIn.inRound k (callsIn_wide.2 HND.out)).mono ?_; rintro e W1 ⟨rfl, hb1⟩; have hbk1 := hbk.below hb1 hbk.lt)
        | (refine wpListIn_store_agg (wide_round k) rfl _ _ _ rfl _ _ rfl (N.map cb).toArray rfl (aggHS hcl) hbk1 (by rw [List.size_toArray, List.size_toArray, List.length_map, List.length_map]; omega) (one_cbA N) ?_; intro W2 hp2))
      rw [show spl (S.map cb).toArray 0 (N.map cb).toArray.toList = (N.map cb).toArray from spl_whole (by rw [List.size_toArray, List.size_toArray, List.length_map, List.length_map]; omega)] at hp2
      have hg3W := hbk.lt
      have hs1 := hb1.size
      refine ⟨⟨by rw [hp2.size]; exact hs1, fun q o _ hq ho => ?_⟩, ⟨?_, ?_⟩, ?_, ?_, by rw [hp2.size]; omega⟩
      · have hqW := (Array.getElem?_eq_some_iff.1 hq).1
        have hne : q ≠ g3 := by
          intro e
          subst e
          have := hbk
          unfold Blk at this
          rw [hq] at this
          cases this
          cases ho
        exact (hp2.oth q hne).trans ((hb1.block q hqW).trans hq)
      · exact (hp2.oth _ (by omega)).trans (hb1.block _ (by omega))
      · exact (hp2.oth _ (by omega)).trans (hb1.block _ (by omega))
      · rw [HSN.out]; exact hp2.blk
      · exact (hbw.trans (hb1.mono hbw.size)).trans (hp2.below hg3)
  case done =>
    rintro D ys W hD hys ⟨hbk, hbw, h5W⟩ hK
    have hfin : curF st (ys.map Fin.val) = frootZ st := by
      rw [hys, curF_range st m (by rw [HM.out]; exact Nat.le_refl _), ← HM.out, List.take_length]
    rw [hfin] at hbk
    have hl32 := frootZ_len st H32.out
    obtain ⟨T, hT⟩ : ∃ T, T = frootZ st := ⟨_, rfl⟩
    rw [← hT] at hbk hl32
    have HT := hid hT
    have hz2W := hz2.below hbw hg2'
    have hcx := blk_cells hbk
    have hah := aggHL hl32
    have hbF := hb02.trans (hbw.mono hb02.size)
    clear hT hfin hys hz2 hbw
    go_wp2_with (first
      | ((with_reducible refine wpAtC ?_); refine wpList_loadG rfl _ _ rfl _ _ rfl (T.map cb) hah hcx ?_; simp only [Act.put, List.setIfInBounds_toArray, List.set_cons_succ, List.set_cons_zero])
      | ((with_reducible refine wpAtC ?_); refine wpList_store_agg rfl _ _ _ rfl _ _ rfl (T.map cb).toArray rfl (aggHS hl32) hz2W (szH hl32) (one_cbA T) ?_; intro w10 hp10; simp only [Act.put]; rw [splH hl32] at hp10))
    have hDl := (Array.getElem?_eq_some_iff.1 hK).1
    have hne : D ≠ g2 := by have := hb35.size; omega
    have hKq : w10.heap[D]? = some (.deferred (some [])) := (hp10.oth D hne).trans hK
    have hg := grownBy_putObj' w10 D (.deferred none)
    have hbk2 : Blk (w10.putObj D (.deferred none)) g2 tHa (T.map cb).toArray := (hg.block g2 hp10.blk.lt (by intro e; injection e with e; exact hne e.symm)).trans hp10.blk
    have hb10 := bx_put hbF hp10 hg2w
    have hfin : Below w.heap.size w (w10.putObj D (.deferred none)) := hb10.grown hg hb10.size (fun k e => by cases e; have := hb02.size; have := hb35.size; omega)
    refine ⟨by simp, .inl ⟨_, _, rfl, run_takeDeferred hKq, ?_⟩⟩
    refine ⟨_, results_agg (cs := T.map cb) rfl rfl (aggHL hl32) (blk_cells hbk2), ?_, hfin⟩
    rw [HT.out]
end Go.Proofs.YtohkfnmggmlogaaDoor