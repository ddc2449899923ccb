
/- FrT and FrU, in one text. -/
import Derived.Test.YtohkfnmggmlogaaDoorFrS
namespace Go.Proofs.YtohkfnmggmlogaaDoor
open Go.RowKit
set_option linter.unusedVariables false
theorem results_agg2 {P : Program} {fn : Func} {p q : Tmp} {ty : TypeId} (h : fn.results = #[.cell p ty, .tmp q]) {tmps : Array Value} {w : World} {g off : Nat} {cs : List Value}
    (hp : tmps.getD p undef = .pointer (some ⟨g, off, none⟩)) (hT : AggT P ty cs.length) (hc : ∀ j v, cs[j]? = some v → w.cell? ⟨g, off + j, none⟩ = some v) :
    (results fn tmps).run P w = .ok (.tuple #[.agg cs.toArray, tmps.getD q undef]) w := by
  have hp' : tmps[p]?.getD undef = .pointer (some ⟨g, off, none⟩) := by simpa using hp
  simp [results, h, hp', asAddr, run_load_agg hT hc]
abbrev tFv : Nat := 33
def fcs (n : Nat) (A1 : Option Addr) (m1 c1 : Nat) (A2 : Option Addr) (m2 c2 : Nat) : List Value := [.int .u64 (n : Int), .slice A1 m1 c1, .slice A2 m2 c2]
theorem zeroF : ZeroT Tryd.prog tFv (.agg (fcs 0 none 0 0 none 0 0).toArray) := zeroT_of (by kernel_rfl)
theorem aggF (n : Nat) (A1 : Option Addr) (m1 c1 : Nat) (A2 : Option Addr) (m2 c2 : Nat) : AggT Tryd.prog tFv (fcs n A1 m1 c1 A2 m2 c2).length := aggT_of Tryd.underlying33 rfl (by kernel_rfl)
theorem aggFS (n : Nat) (A1 : Option Addr) (m1 c1 : Nat) (A2 : Option Addr) (m2 c2 : Nat) : AggT Tryd.prog tFv (fcs n A1 m1 c1 A2 m2 c2).toArray.size := aggF n A1 m1 c1 A2 m2 c2
theorem oneF (n : Nat) (A1 : Option Addr) (m1 c1 : Nat) (A2 : Option Addr) (m2 c2 : Nat) : ∀ v ∈ (fcs n A1 m1 c1 A2 m2 c2).toArray.toList, v.oneCell' = true := by
  intro v hv
  simp [fcs] at hv
  rcases hv with rfl | rfl | rfl <;> rfl
theorem splF {x y : List Value} (hx : x.length = 3) (hy : y.length = 3) : spl (Value.agg y.toArray).cells 0 x.toArray.toList = x.toArray := spl_whole (by show y.toArray.size = _; simp [hx, hy])
theorem szF {x y : List Value} (hx : x.length = 3) (hy : y.length = 3) : 0 + x.toArray.size ≤ (Value.agg y.toArray).cells.size := by show 0 + x.toArray.size ≤ y.toArray.size; simp [hx, hy]
set_option maxRecDepth 10000 in
set_option maxHeartbeats 1000000 in
theorem rFrom_ok (w : World) (n : Nat) (hn : n < 18446744073709551616) (A : Option Addr) (m c : Nat) (hm : m ≤ 1000000) (he : ones n = m) :
    Calls Tryd.prog 12 #[.int .u64 (n : Int), .slice A m c] w fun e w' => ∃ A1 c1, e = .returned (.tuple #[.agg (fcs n A1 m c1 A m c).toArray, .int .i64 0]) ∧ w'.ownsRow w.heap.size tU 1 (.slice A1 m c1) m ((partsR 1 n).reverse.map un) ∧ Below w.heap.size w w' := by
  go_enter Tryd.func12, Tryd.ntmps12
  go_wp2_with ((with_reducible refine wpAtC ?_); refine wpList_alloc (w := w) rfl _ rfl zeroF ?_; intro g4 w4 hg4 hg4' hz4 hb4; simp only [Act.put, List.setIfInBounds_toArray, List.set_cons_succ, List.set_cons_zero])
  refine (rParts_any w4 n hn).mono ?_
  rintro e w5 ⟨v, rfl, hown, hb5⟩
  have hz5 := hz4.below hb5 hz4.lt
  have hb05 := bx_trans hb4 hb5
  obtain ⟨A1, c1, rfl, _, _, _⟩ := own_form hown
  have hol := ones_le 64 n hn
  have hown5 := own_more hown hb4.size
  generalize ones n = o at *
  have HOW := hid hown5
  clear hown hown5 hz4 hb4 hb5
  subst he
  go_wp2_with (first
    | ((with_reducible refine wpAtC ?_); refine wpList_store_agg rfl _ _ _ rfl _ _ rfl (fcs n A1 o c1 A o c).toArray rfl (aggFS _ _ _ _ _ _ _) hz5 (szF rfl rfl) (oneF _ _ _ _ _ _ _) ?_; intro w6 hp6; simp only [Act.put]; rw [splF rfl rfl] at hp6))
  refine bodyPost_ret (results_agg2 (cs := fcs n A1 o c1 A o c) rfl rfl (aggF _ _ _ _ _ _ _) (blk_cells hp6.blk)) rfl ?_
  exact ⟨A1, c1, rfl, own_other HOW.out hp6 (own_ne HOW.out hz5 (fun cur hx => by cases hx)), bx_put hb05 hp6 hg4⟩
set_option maxRecDepth 10000 in
set_option maxHeartbeats 1000000 in
theorem rFrom_no (w : World) (n : Nat) (hn : n < 18446744073709551616) (A : Option Addr) (m c : Nat) (hm : m ≤ 1000000) (he : ones n ≠ m) :
    Calls Tryd.prog 12 #[.int .u64 (n : Int), .slice A m c] w fun e w' => e = .returned (.tuple #[.agg (fcs 0 none 0 0 none 0 0).toArray, .int .i64 1]) ∧ Below w.heap.size w w' := by
  go_enter Tryd.func12, Tryd.ntmps12
  go_wp2_with ((with_reducible refine wpAtC ?_); refine wpList_alloc (w := w) rfl _ rfl zeroF ?_; intro g4 w4 hg4 hg4' hz4 hb4; simp only [Act.put, List.setIfInBounds_toArray, List.set_cons_succ, List.set_cons_zero])
  refine (rParts_any w4 n hn).mono ?_
  rintro e w5 ⟨v, rfl, hown, hb5⟩
  have hz5 := hz4.below hb5 hz4.lt
  have hb05 := bx_trans hb4 hb5
  obtain ⟨A1, c1, rfl, _, _, _⟩ := own_form hown
  have hol := ones_le 64 n hn
  have hown5 := own_more hown hb4.size
  generalize ones n = o at *
  have HOW := hid hown5
  clear hown hown5 hz4 hb4 hb5
  have hne : ¬ (o : Int) = (m : Int) := by omega
  clear he
  go_wp2_with (first
    | ((with_reducible refine wpAtC ?_); refine wpList_store_agg rfl _ _ _ rfl _ _ rfl (fcs 0 none 0 0 none 0 0).toArray rfl (aggFS _ _ _ _ _ _ _) hz5 (szF rfl rfl) (oneF _ _ _ _ _ _ _) ?_; intro w6 hp6; simp only [Act.put]; rw [splF rfl rfl] at hp6))
  refine bodyPost_ret (results_agg2 (cs := fcs 0 none 0 0 none 0 0) rfl rfl (aggF _ _ _ _ _ _ _) (blk_cells hp6.blk)) rfl ?_
  exact ⟨rfl, bx_put hb05 hp6 hg4⟩
set_option linter.unusedVariables false
theorem rev_at2 {α : Type} (p : α) (a b : List α) (q : α) : (p :: (a ++ q :: b)).reverse[b.length]? = some q := by
  rw [show (p :: (a ++ q :: b)).reverse = b.reverse ++ (q :: (a.reverse ++ [p])) by simp, List.getElem?_append_right (by simp)]
  simp
theorem foldl_len (h : List UInt8) (hh : h.length = 32) : ∀ (a : List (List UInt8)) (x : List UInt8), x.length = 32 → (a.foldl (fun x q => nodeL q x) x).length = 32 := by
  intro a
  induction a with
  | nil => intro x hx; exact hx
  | cons q a ih => intro x hx; exact ih _ (nodeL_len _ _)
set_option maxRecDepth 10000 in
set_option maxHeartbeats 1000000 in
theorem rFRoot_zero (w : World) (A1 : Option Addr) (m1 c1 : Nat) (A2 : Option Addr) (m2 c2 : Nat) :
    Calls Tryd.prog 17 #[.agg (fcs 0 A1 m1 c1 A2 m2 c2).toArray] w fun e w' => e = .returned (.agg ((shaL []).map cb).toArray) ∧ Below w.heap.size w w' := by
  have h32 := shaL_len []
  have HO := hid (fun w' => rOf_any w' [] (by decide))
  generalize shaL [] = X at *
  have hb1 : Below w.heap.size w (w.alloc (.cells (fcs 0 A1 m1 c1 A2 m2 c2).toArray tFv)) := bx_alloc (Below.refl _ _) _
  go_enter Tryd.func17, Tryd.ntmps17
  go_wp2_with (first
    | ((with_reducible refine wpAtC ?_); refine wpList_alloc (w := w.alloc (.cells (fcs 0 A1 m1 c1 A2 m2 c2).toArray tFv)) rfl _ rfl zeroH ?_; intro g2 w2 hg2 hg2' hz2 hb2; have c0 : w2.cell? ⟨w.heap.size, 0, none⟩ = some (.int .u64 0) := (hb2.cell (p := ⟨w.heap.size, 0, none⟩) (by simp)).trans ((Blk.new w tFv (fcs 0 A1 m1 c1 A2 m2 c2).toArray).cell 0); simp only [Act.put, List.setIfInBounds_toArray, List.set_cons_succ, List.set_cons_zero]))
  have hb02 := hb1.trans (hb2.mono hb1.size)
  have hg2w : w.heap.size ≤ g2 := Nat.le_trans hb1.size hg2
  refine (HO.out w2).mono ?_
  rintro e w3 ⟨rfl, hb3⟩
  have hz3 := hz2.below hb3 hg2'
  have hb03 := hb02.trans (hb3.mono hb02.size)
  go_wp2_with (first
    | ((with_reducible refine wpAtC ?_); refine wpList_store_agg rfl _ _ _ rfl _ _ rfl (X.map cb).toArray rfl (aggHS h32) hz3 (szH h32) (one_cbA _) ?_; intro w4 hp4; simp only [Act.put]; rw [splH h32] at hp4))
  exact bodyPost_ret (results_agg rfl rfl (aggHL h32) (blk_cells hp4.blk)) rfl ⟨rfl, bx_put hb03 hp4 hg2w⟩
set_option maxRecDepth 10000 in
set_option maxHeartbeats 1000000 in
theorem rFRoot_some (w : World) (n : Nat) (hn0 : n ≠ 0) (hn : n < 18446744073709551616) (A1 : Option Addr) (m1 k1 : Nat) (A2 : Option Addr) (m c2 : Nat) (p : List UInt8) (r : List (List UInt8)) (h32 : ∀ q ∈ p :: r, q.length = 32) (hm : (p :: r).length = m) (hm6 : m ≤ 1000000) (hr : Rd w w.heap.size A2 ((p :: r).reverse.flatten.map cb)) :
    Calls Tryd.prog 17 #[.agg (fcs n A1 m1 k1 A2 m c2).toArray] w fun e w' => e = .returned (.agg ((froot (p :: r)).map cb).toArray) ∧ Below w.heap.size w w' := by
  obtain ⟨T, hT⟩ : ∃ T, T = froot (p :: r) := ⟨_, rfl⟩
  have hT32 := froot_len (p :: r) h32
  rw [← hT] at hT32 ⊢
  have HT := hid hT
  have hrl : (p :: r).reverse.length = m := by rw [List.length_reverse, hm]
  have h32r : ∀ q ∈ (p :: r).reverse, q.length = 32 := fun q hq => h32 q (List.mem_reverse.1 hq)
  have hm1 : 1 ≤ m := by rw [← hm]; simp
  obtain ⟨bL, oL, rfl, hbL, -⟩ := rd_hash' hr h32r 0 (by rw [hrl]; omega)
  have HCH := hid (fun k (hk : k < (p :: r).reverse.length) => (rd_hash hr h32r k hk).2)
  have hp32 : p.length = 32 := h32 p (List.mem_cons_self ..)
  have H32 := hid h32
  obtain ⟨k, hk⟩ : ∃ k, k = r.length := ⟨_, rfl⟩
  have hmk : m = k + 1 := by rw [← hm, List.length_cons, hk]
  have c1 := HCH.out k (by rw [hrl]; omega)
  have g1 : (p :: r).reverse[k]'(by rw [hrl]; omega) = p := by
    rw [List.getElem_reverse]
    simp only [List.length_cons, ← hk, show k + 1 - 1 - k = 0 by omega]
    rfl
  rw [g1] at c1
  have hap := aggHL hp32
  have e1 : (m : Int) - 1 = (k : Int) := by omega
  have hkm : k < m := by omega
  have HK := hid hk
  have HRL := hid hrl
  have hne : ¬ (n : Int) = 0 := by omega
  clear hT g1 hk hr h32r hm h32 hrl hn0 hmk
  have hb1 : Below w.heap.size w (w.alloc (.cells (fcs n A1 m1 k1 (some ⟨bL, oL, none⟩) m c2).toArray tFv)) := bx_alloc (Below.refl _ _) _
  have hB1 := Blk.new w tFv (fcs n A1 m1 k1 (some ⟨bL, oL, none⟩) m c2).toArray
  go_enter Tryd.func17, Tryd.ntmps17
  go_wp2_with (first
    | ((with_reducible refine wpAtC ?_); refine wpList_alloc (w := w.alloc (.cells (fcs n A1 m1 k1 (some ⟨bL, oL, none⟩) m c2).toArray tFv)) rfl _ rfl zeroH ?_; intro g2 w2 hg2 hg2' hz2 hb2; have c00 : w2.cell? ⟨w.heap.size, 0, none⟩ = some (.int .u64 (n : Int)) := (hb2.cell (p := ⟨w.heap.size, 0, none⟩) (by simp)).trans (hB1.cell 0); have c02 : w2.cell? ⟨w.heap.size, 2, none⟩ = some (.slice (some ⟨bL, oL, none⟩) m c2) := (hb2.cell (p := ⟨w.heap.size, 2, none⟩) (by simp)).trans (hB1.cell 2); have hb02 := hb1.trans (hb2.mono hb1.size); have c1a := fun i v hv => (hb02.cell (p := ⟨bL, oL + k * 32 + i, none⟩) hbL).trans (c1 i v hv); have hBl : w.heap.size < w2.heap.size := (by have := hb2.size; simp at this; omega); simp only [Act.put, List.setIfInBounds_toArray, List.set_cons_succ, List.set_cons_zero])
    | ((with_reducible refine wpAtC ?_); refine wpList_loadG rfl _ _ rfl _ _ rfl (p.map cb) hap c1a ?_; simp only [Act.put, List.setIfInBounds_toArray, List.set_cons_succ, List.set_cons_zero])
    | ((with_reducible refine wpAtC ?_); refine wpList_alloc (w := w2) rfl _ rfl zeroH ?_; intro g3 w3 hg3 hg3' hz3 hb3; simp only [Act.put, List.setIfInBounds_toArray, List.set_cons_succ, List.set_cons_zero])
    | ((with_reducible refine wpAtC ?_); refine wpList_store_agg rfl _ _ _ rfl _ _ rfl (p.map cb).toArray rfl (aggHS hp32) hz3 (szH hp32) (one_cbA p) ?_; intro w4 hp4; simp only [Act.put]; rw [splH hp32] at hp4; have hb24 := hb3.trans (hp4.below hg3); have c02b := (hb24.cell (p := ⟨w.heap.size, 2, none⟩) hBl).trans c02))
  have hb0 : ((n : Int) == 0) = false := by simpa using hne
  try rw [hb0]
  clear hb0
  have hx4 := hp4.blk
  have hz24w := hz2.below hb24 hg2'
  have hne23 : g3 ≠ g2 := by omega
  have hg2w : w.heap.size ≤ g2 := Nat.le_trans hb1.size hg2
  have HB02 := hid hb02
  have HC02 := hid c02
  clear hz3 hp4 hb3 hz2 hb2 hb02 c1a c02 c00 c1
  go_loopw [4] (fun v4 wq => ∃ (a b : List (List UInt8)), r = a ++ b ∧ v4 = .int .i64 ((b.length : Int) - 1) ∧ Blk wq g3 tHa ((a.foldl (fun x q => nodeL q x) p).map cb).toArray ∧ wq.heap[g2]? = w4.heap[g2]? ∧ Below w2.heap.size w2 wq) (fun v4 _ => (intOf v4 + 1).toNat)
  case atStart => exact ⟨[], r, rfl, by rw [← HK.out]; go_num, hx4, rfl, hb24⟩
  case round =>
    obtain ⟨a, b, hab, rfl, hx, hg2q, hbq⟩ := hrel
    clear hx4 c02b
    rename World => wq
    have hcl := foldl_len p hp32 a p hp32
    have c02q := (hbq.cell (p := ⟨w.heap.size, 2, none⟩) hBl).trans HC02.out
    cases b with
    | nil =>
      rw [List.append_nil] at hab
      have hfin : a.foldl (fun x q => nodeL q x) p = T := by rw [HT.out, hab]; rfl
      rw [hfin] at hx hcl
      have hz := show Blk wq g2 tHa _ from hg2q.trans hz24w
      have hcx := blk_cells hx
      have hah2 := aggHL hcl
      have hbF := HB02.out.trans (hbq.mono HB02.out.size)
      clear hab hfin hx hg2q hbq c02q
      go_wp2_with (first
        | ((with_reducible refine wpAtC ?_); refine wpList_loadG rfl _ _ rfl _ _ rfl (T.map cb) hah2 hcx ?_; simp only [Act.put, List.setIfInBounds_toArray, List.set_cons_succ, List.set_cons_zero])
        | ((with_reducible refine wpAtC ?_); refine wpList_store_agg rfl _ _ _ rfl _ _ rfl (T.map cb).toArray rfl (aggHS hcl) hz (szH hcl) (one_cbA T) ?_; intro w10 hp10; simp only [Act.put]; rw [splH hcl] at hp10))
      exact bodyPost_ret (results_agg (cs := T.map cb) rfl rfl (aggHL hcl) (blk_cells hp10.blk)) rfl ⟨rfl, bx_put hbF hp10 hg2w⟩
    | cons q b =>
      have hh' : q.length = 32 := H32.out q (by rw [hab]; simp)
      obtain ⟨j, hj⟩ : ∃ j, j = b.length := ⟨_, rfl⟩
      have hrl2 : k = a.length + (j + 1) := by rw [HK.out, hab, List.length_append, List.length_cons, hj]
      have hjm : j < m := by omega
      have ck := HCH.out j (by rw [HRL.out]; exact hjm)
      have gk : (p :: r).reverse[j]'(by rw [HRL.out]; exact hjm) = q := by
        have e := rev_at2 p a b q
        rw [← hab, ← hj] at e
        exact Option.some.inj ((List.getElem?_eq_getElem _).symm.trans e)
      rw [gk] at ck
      have e5 : ((q :: b).length : Int) - 1 = (j : Int) := by rw [List.length_cons, ← hj]; omega
      rw [e5]
      generalize hX0 : a.foldl (fun x q => nodeL q x) p = x0 at *
      have hah2 := aggHL hcl
      have hah3 := aggHL hh'
      have HN2 := hid (fun w' => rNode_any w' hh' hcl)
      have HX0 := hid hX0
      have HCK := hid (fun i v hv => (HB02.out.cell (p := ⟨bL, oL + j * 32 + i, none⟩) hbL).trans (ck i v hv))
      have HAB := hid hab
      have HJ := hid hj
      have HC2Q := hid c02q
      have hbl2 : bL < w2.heap.size := Nat.lt_of_lt_of_le hbL HB02.out.size
      have hBlq : w.heap.size < wq.heap.size := Nat.lt_of_lt_of_le hBl hbq.size
      clear e5 gk ck hab hrl2 hj hX0 c02q
      go_wp2_with fail
      refine wp_flow (by kernel_rfl) [0, 1, 0, 7, 15, 0, 63, 127] 7 [false, false, false, false, false, false, false, false, false, false, false, false, false, false, false, false, false, false, false, false, false, false, false, false, false, true, true, true, true, true, true, true] (by kernel_rfl) (by decide) (by kernel_rfl) [FP.eq (.pointer (some ⟨w.heap.size, 2, none⟩)), FP.eq (.slice (some ⟨bL, oL, none⟩) m c2), FP.eq (.int .i64 (j : Int)), FP.eq (.pointer (some ⟨bL, oL + j * 32, none⟩)), FP.eq (.agg (q.map cb).toArray), FP.eq (.agg (x0.map cb).toArray), FP.eq (.agg ((shaL (1 :: (q ++ x0))).map cb).toArray)] ?_ ?_
      · refine allFrom_cons ?_ ?_
        · intro a_ w_ hk_
          have h1 : a_.eval (.tmp 1) = .pointer (some ⟨w.heap.size, 0, none⟩) := hk_.old 1 (by kernel_rfl)
          have hx_ := hk_.ext
          clear hk_
          refine flow_plain rfl ?_
          unfold gives
          have hc_ : ∀ v, a_.eval (.const v) = v := fun _ => rfl
          have hn_ : ∀ f, a_.eval (.func f) = .func (.func f) #[] #[] := fun _ => rfl
          generalize a_.eval = ρ_ at *
          go_simp
          exact ⟨Below.refl _ _, rfl⟩
        refine allFrom_cons ?_ ?_
        · intro a_ w_ hk_
          have h25 : a_.eval (.tmp 25) = (.pointer (some ⟨w.heap.size, 2, none⟩)) := hk_.got 0 25 _ (by kernel_rfl) rfl rfl
          have hx_ := hk_.ext
          clear hk_
          refine flow_plain rfl ?_
          unfold gives
          have hc_ : ∀ v, a_.eval (.const v) = v := fun _ => rfl
          have hn_ : ∀ f, a_.eval (.func f) = .func (.func f) #[] #[] := fun _ => rfl
          have hcell := (hx_.cell (p := ⟨w.heap.size, 2, none⟩) hBlq).trans HC2Q.out
          generalize a_.eval = ρ_ at *
          go_simp
          exact ⟨Below.refl _ _, rfl⟩
        refine allFrom_cons ?_ ?_
        · intro a_ w_ hk_
          have h4 : a_.eval (.tmp 4) = .int .i64 (j : Int) := hk_.old 4 (by kernel_rfl)
          have hx_ := hk_.ext
          clear hk_
          refine flow_plain rfl ?_
          exact gives_move rfl ⟨Below.refl _ _, h4⟩
        refine allFrom_cons ?_ ?_
        · intro a_ w_ hk_
          have h26 : a_.eval (.tmp 26) = (.slice (some ⟨bL, oL, none⟩) m c2) := hk_.got 1 26 _ (by kernel_rfl) rfl rfl
          have h27 : a_.eval (.tmp 27) = (.int .i64 (j : Int)) := hk_.got 2 27 _ (by kernel_rfl) rfl rfl
          have hx_ := hk_.ext
          clear hk_
          refine flow_plain rfl ?_
          unfold gives
          have hc_ : ∀ v, a_.eval (.const v) = v := fun _ => rfl
          have hn_ : ∀ f, a_.eval (.func f) = .func (.func f) #[] #[] := fun _ => rfl
          generalize a_.eval = ρ_ at *
          go_simp
          exact ⟨Below.refl _ _, rfl⟩
        refine allFrom_cons ?_ ?_
        · intro a_ w_ hk_
          have h28 : a_.eval (.tmp 28) = (.pointer (some ⟨bL, oL + j * 32, none⟩)) := hk_.got 3 28 _ (by kernel_rfl) rfl rfl
          have hx_ := hk_.ext
          clear hk_
          refine flow_plain rfl ?_
          exact gives_ldC rfl h28 hah3 (fun i v hv => ((hbq.trans (hx_.mono hbq.size)).cell (p := ⟨bL, oL + j * 32 + i, none⟩) hbl2).trans (HCK.out i v hv)) ⟨Below.refl _ _, rfl⟩
        refine allFrom_cons ?_ ?_
        · intro a_ w_ hk_
          have h3 : a_.eval (.tmp 3) = .pointer (some ⟨g3, 0, none⟩) := hk_.old 3 (by kernel_rfl)
          have hx_ := hk_.ext
          clear hk_
          refine flow_plain rfl ?_
          exact gives_ldC rfl h3 hah2 (blk_cells (hx.below hx_ hx.lt)) ⟨Below.refl _ _, rfl⟩
        refine allFrom_cons ?_ ?_
        · intro a_ w_ hk_
          have h29 : a_.eval (.tmp 29) = (.agg (q.map cb).toArray) := hk_.got 4 29 _ (by kernel_rfl) rfl rfl
          have h30 : a_.eval (.tmp 30) = (.agg (x0.map cb).toArray) := hk_.got 5 30 _ (by kernel_rfl) rfl rfl
          have hx_ := hk_.ext
          clear hk_
          refine flow_plain rfl ?_
          unfold gives
          have hc_ : ∀ v, a_.eval (.const v) = v := fun _ => rfl
          have hn_ : ∀ f, a_.eval (.func f) = .func (.func f) #[] #[] := fun _ => rfl
          generalize a_.eval = ρ_ at *
          go_simp
          exact (HN2.out w_).mono fun e w' hh => ⟨_, hh.1, hh.2, rfl⟩
        exact allFrom_nil
      intro f_ w_ hx_ hf_
      have h25 : f_ 25 = (.pointer (some ⟨w.heap.size, 2, none⟩)) := hf_ 0 25 _ (by decide) rfl rfl
      have h26 : f_ 26 = (.slice (some ⟨bL, oL, none⟩) m c2) := hf_ 1 26 _ (by decide) rfl rfl
      have h27 : f_ 27 = (.int .i64 (j : Int)) := hf_ 2 27 _ (by decide) rfl rfl
      have h28 : f_ 28 = (.pointer (some ⟨bL, oL + j * 32, none⟩)) := hf_ 3 28 _ (by decide) rfl rfl
      have h29 : f_ 29 = (.agg (q.map cb).toArray) := hf_ 4 29 _ (by decide) rfl rfl
      have h30 : f_ 30 = (.agg (x0.map cb).toArray) := hf_ 5 30 _ (by decide) rfl rfl
      have h31 : f_ 31 = (.agg ((shaL (1 :: (q ++ x0))).map cb).toArray) := hf_ 6 31 _ (by decide) rfl rfl
      simp only [mix, List.drop_succ_cons, List.drop_zero, h25, h26, h27, h28, h29, h30, h31]
      clear h25 h26 h27 h28 h29 h30 h31
      clear hf_
      rename World => wv
      have hxv := hx.below hx_ hx.lt
      have hbv := hbq.trans (hx_.mono hbq.size)
      have hg2v : wv.heap[g2]? = w4.heap[g2]? := (hx_.block g2 (Nat.lt_of_lt_of_le hg2' hbq.size)).trans hg2q
      have hnl := shaL_len (1 :: (q ++ x0))
      have HY := hid (show shaL (1 :: (q ++ x0)) = (a ++ [q]).foldl (fun x q => nodeL q x) p by rw [List.foldl_append, HX0.out]; rfl)
      clear hx hx_ HN2
      generalize shaL (1 :: (q ++ x0)) = N at *
      go_wp2_with ((with_reducible refine wpAtC ?_); refine wpList_store_agg rfl _ _ _ rfl _ _ rfl (N.map cb).toArray rfl (aggHS hnl) hxv (by rw [List.size_toArray, List.size_toArray, List.length_map, List.length_map]; omega) (one_cbA N) ?_; intro w18 hp18; simp only [Act.put])
      rw [show spl (x0.map cb).toArray 0 (N.map cb).toArray.toList = (N.map cb).toArray from spl_whole (by rw [List.size_toArray, List.size_toArray, List.length_map, List.length_map]; omega)] at hp18
      go_roundw
      case rel => exact ⟨a ++ [q], b, by rw [HAB.out]; simp, by rw [← HJ.out], by rw [← HY.out]; exact hp18.blk, (hp18.oth g2 (Ne.symm hne23)).trans hg2v, hbv.trans (hp18.below hg3)⟩
      case measure => simp [intOf]
end Go.Proofs.YtohkfnmggmlogaaDoor
