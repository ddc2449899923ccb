
/- Clashes: Chains walked. -/
import Derived.Test.YtgaefejblmnklaaDoorClN
import Derived.Test.YtgaefejblmnklaaDoorFlowS
namespace Go.Proofs.YtgaefejblmnklaaDoor
open Go.RowKit
set_option linter.unusedVariables false
theorem chL_len {wide : Int} {fs : List Bool} {x : List UInt8} {path : List (List UInt8)} (h : fs.length = path.length) : (chL wide fs x path).1.length = path.length := by
  rw [← chTo_all h]
  exact chTo_len h _ (Nat.le_refl _)
theorem chL_none {wide : Int} {fs : List Bool} {x : List UInt8} {path : List (List UInt8)} (h : fs.length = path.length) (h0 : path.length = 0) : (chL wide fs x path).2.1 = (chL wide fs x path).2.2 := by
  rw [List.eq_nil_of_length_eq_zero h0] at h ⊢
  unfold chL
  rw [List.zip_nil_right]
  rfl
theorem chainedL_ok {wide : Int} {m n : Nat} {old : List UInt8} {path : List (List UInt8)} (h : chainedE m n path.length = 0) : chainedL wide m n old path = chL wide (steps m n) (cfst m n old path) (crest m n path) := by unfold chainedL; rw [if_pos h]
theorem chainedL_len {wide : Int} {m n : Nat} {old : List UInt8} {path : List (List UInt8)} (h : chainedE m n path.length = 0) : (chainedL wide m n old path).1.length = (steps m n).length := by
  obtain ⟨h1, h2, h3⟩ := chainedE_ok h
  have := crest_len h1 h2 h3
  rw [chainedL_ok h, chL_len this, this]
theorem chainedL_none {wide : Int} {m n : Nat} {old : List UInt8} {path : List (List UInt8)} (h : chainedE m n path.length = 0) (h0 : (steps m n).length = 0) : (chainedL wide m n old path).2.1 = (chainedL wide m n old path).2.2 := by
  obtain ⟨h1, h2, h3⟩ := chainedE_ok h
  have := crest_len h1 h2 h3
  rw [chainedL_ok h]
  exact chL_none this (by omega)
theorem steps_long {m n p : Nat} (h : chainedE m n p = 0) (hp : p ≤ 1000) : (steps m n).length ≤ 1000 := by
  obtain ⟨h1, h2, h3⟩ := chainedE_ok h
  rw [longN_ok h1 h2] at h3
  omega
/-- A piece of code at which the walk stands still. -/
def Hold (c : Code) : Code := c
theorem hold (k : Nat) (ops : Array Oper) (b : Bool) : Code.region k ops b = Hold (Code.region k ops b) := rfl
/-- A hash lies there. -/
def HAt (w : World) (g off : Nat) (h : List UInt8) : Prop := h.length = 32 ∧ ∀ j v, (h.map cb)[j]? = some v → w.cell? ⟨g, off + j, none⟩ = some v
theorem loadHG {ops : Array Oper} {rest : List Oper} {o : Oper} {a : Act} {w : World} {Q : Exit → Act → World → Prop} {x : Operand} (ho : o.op = .load tH x) {g off : Nat} (hx : a.eval x = .pointer (some ⟨g, off, none⟩)) {h : List UInt8} (hA : HAt w g off h) (hgd : Region.wanted o (yielded ops a.tmps) = true)
    (k : wpList Tryd.prog ops Q rest (a.put o.dst (.agg (h.map cb).toArray)) w) : wpList Tryd.prog ops Q (o :: rest) a w :=
  wpList_loadG hgd _ _ ho g off hx (h.map cb) (aggHL hA.1) hA.2 k
set_option maxRecDepth 100000 in
set_option maxHeartbeats 4000000 in
theorem Chains_any (w : World) (hL : Laid w) (wide : Int) {m n : Nat} (hm : m < 18446744073709551616) (hn : n < 18446744073709551616) {a b : List UInt8} (ha : a.length = 32) (hb : b.length = 32)
    {Ap : Option Addr} {cp p : Nat} {P : List (List UInt8)} (hpl : P.length = p) (h32 : ∀ x ∈ P, x.length = 32) (hrp : Rd w w.heap.size Ap (P.flatten.map cb)) (hcp : p ≤ cp) (hcp2 : cp ≤ 9223372036854775807) (hp : p ≤ 1000)
    {Aq : Option Addr} {cq q : Nat} {Q : List (List UInt8)} (hql : Q.length = q) (h32' : ∀ x ∈ Q, x.length = 32) (hrq : Rd w w.heap.size Aq (Q.flatten.map cb)) (hcq : q ≤ cq) (hcq2 : cq ≤ 9223372036854775807) (hq : q ≤ 1000) :
    Calls Tryd.prog 13 #[.int .i64 wide, .agg (kcell m a).toArray, .agg (kcell m b).toArray, .int .u64 (n : Int), .slice Ap p cp, .slice Aq q cq] w
      (Shows w (a ≠ b ∧ chainedE m n p = 0 ∧ chainedE m n q = 0 ∧ (chainedL wide m n a P).2.1 = a ∧ (chainedL wide m n b Q).2.1 = b ∧ (chainedL wide m n a P).2.2 = (chainedL wide m n b Q).2.2) (chainedL wide m n a P).1 (chainedL wide m n b Q).1) := by
  have HR1 := hid (fun (w' : World) (hb : Below w.heap.size w w') => chained_any w' (hL.below hb) wide hm hn ha hpl h32 ((hrp.below hb).more hb.size) hcp hcp2 hp)
  have HR2 := hid (fun (w' : World) (hb' : Below w.heap.size w w') => chained_any w' (hL.below hb') wide hm hn hb hql h32' ((hrq.below hb').more hb'.size) hcq hcq2 hq)
  obtain ⟨hX1, hY1⟩ := chainedL_hash (wide := wide) (m := m) (n := n) ha h32
  obtain ⟨hX2, hY2⟩ := chainedL_hash (wide := wide) (m := m) (n := n) hb h32'
  have HL1 := hid (fun h => @chainedL_len wide m n a P h)
  have HL2 := hid (fun h => @chainedL_len wide m n b Q h)
  have HN1 := hid (fun h => @chainedL_none wide m n a P h)
  have HN2 := hid (fun h => @chainedL_none wide m n b Q h)
  have HST := hid (fun (h : chainedE m n p = 0) => steps_long h hp)
  rw [hpl] at HL1 HN1
  rw [hql] at HL2 HN2
  obtain ⟨E, hE⟩ : ∃ E, E = chainedE m n p := ⟨_, rfl⟩
  obtain ⟨F, hF⟩ : ∃ F, F = chainedE m n q := ⟨_, rfl⟩
  rw [← hE] at HR1 HL1 HN1 HST ⊢
  rw [← hF] at HR2 HL2 HN2 ⊢
  generalize chainedL wide m n a P = V at *
  generalize chainedL wide m n b Q = U at *
  generalize (steps m n).length = D at *
  obtain ⟨X1, hX1e⟩ : ∃ X, X = V.2.1 := ⟨_, rfl⟩
  obtain ⟨Y1, hY1e⟩ : ∃ Y, Y = V.2.2 := ⟨_, rfl⟩
  obtain ⟨X2, hX2e⟩ : ∃ X, X = U.2.1 := ⟨_, rfl⟩
  obtain ⟨Y2, hY2e⟩ : ∃ Y, Y = U.2.2 := ⟨_, rfl⟩
  obtain ⟨R, hR⟩ : ∃ R, R = V.1 := ⟨_, rfl⟩
  obtain ⟨S, hS⟩ : ∃ S, S = U.1 := ⟨_, rfl⟩
  rw [← hX1e] at HR1 HN1 hX1 ⊢
  rw [← hY1e] at HR1 HN1 hY1 ⊢
  rw [← hX2e] at HR2 HN2 hX2 ⊢
  rw [← hY2e] at HR2 HN2 hY2 ⊢
  rw [← hR] at HR1 HL1 ⊢
  rw [← hS] at HR2 HL2 ⊢
  obtain ⟨G, hG⟩ : ∃ G : Prop, G = (a ≠ b ∧ E = 0 ∧ F = 0 ∧ X1 = a ∧ X2 = b ∧ Y1 = Y2) := ⟨_, rfl⟩
  rw [← hG]
  have HG := hid hG
  obtain ⟨H1, hH1⟩ : ∃ H, H = X1 ++ Y1 := ⟨_, rfl⟩
  obtain ⟨H2, hH2⟩ : ∃ H, H = X2 ++ Y2 := ⟨_, rfl⟩
  have hl1 : H1.length = 64 := by rw [hH1, List.length_append, hX1, hY1]
  have hl2 : H2.length = 64 := by rw [hH2, List.length_append, hX2, hY2]
  rw [← hH1] at HR1
  rw [← hH2] at HR2
  have HH1 := hid hH1
  have HH2 := hid hH2
  have hkA0 : Blk ((w.alloc (.cells (kcell m a).toArray tKy)).alloc (.cells (kcell m b).toArray tKy)) w.heap.size tKy (kcell m a).toArray := (Blk.new w _ _).alloc _
  have hkB0 : Blk ((w.alloc (.cells (kcell m a).toArray tKy)).alloc (.cells (kcell m b).toArray tKy)) (w.heap.size + 1) tKy (kcell m b).toArray := by
    have := Blk.new (w.alloc (.cells (kcell m a).toArray tKy)) tKy (kcell m b).toArray
    rwa [World.size_alloc] at this
  have hb0 : Below w.heap.size w ((w.alloc (.cells (kcell m a).toArray tKy)).alloc (.cells (kcell m b).toArray tKy)) := bx_alloc (bx_alloc (Below.refl _ _) _) _
  have hakA := aggKy m ha
  have hakB := aggKy m hb
  clear hX1e hY1e hX2e hY2e hR hS hG hH1 hH2 hE hF hL hrp hrq hpl hql h32 h32'
  go_enter Tryd.func13, Tryd.ntmps13
  rw [hold 3]
  go_wp2_with (first
    | ((with_reducible refine wpAtC ?_); refine wpList_alloc (w := (w.alloc (.cells (kcell m a).toArray tKy)).alloc (.cells (kcell m b).toArray tKy)) rfl _ rfl zeroCl ?_; intro g12 w2 hg12 hg12' hz12 hb2; have hkA := hkA0.below hb2 hkA0.lt; have hkB := hkB0.below hb2 hkB0.lt; have ckA := blk_cells hkA; simp only [Act.put, List.setIfInBounds_toArray, List.set_cons_succ, List.set_cons_zero])
    | ((with_reducible refine wpAtC ?_); refine wpList_load_agg rfl _ _ rfl _ _ rfl (kcell m a) hakA ckA ?_; simp only [Act.put, List.setIfInBounds_toArray, List.set_cons_succ, List.set_cons_zero]))
  have hb02 := bx_trans hb0 hb2
  refine (HR1.out w2 hb02).mono ?_
  rintro e w3 ⟨vo, vs, rfl, hown1, hows1, hb3⟩
  obtain ⟨A1, c1, ev1, _⟩ := own_form hown1
  have hown1 := own_less hown1 hb02.size
  have hows1 := hows1.less hb02.size
  have hb03 := bx_trans hb02 hb3
  have hkA3 := hkA.below hb3 hkA.lt
  have hkB3 := hkB.below hb3 hkB.lt
  have hz3 := hz12.below hb3 hz12.lt
  rw [ev1] at hown1 ⊢
  clear ckA hkA hkB hkA0 hkB0 hz12 hb3 hb02 ev1
  go_wp2_with (first
    | ((with_reducible refine wpAtC ?_); refine wpList_alloc (w := w3) rfl _ rfl zeroHH ?_; intro g15 w4 hg15 hg15' hz15 hb4; simp only [Act.put, List.setIfInBounds_toArray, List.set_cons_succ, List.set_cons_zero])
    | ((with_reducible refine wpAtC ?_); refine wpList_store_agg rfl _ _ _ rfl _ _ rfl (H1.map cb).toArray rfl (aggHHS hl1) hz15 (szHH hl1) (one_cbA _) ?_; intro w5 hp5; simp only [Act.put]; rw [splHH hl1] at hp5; have hb35 := bx_put hb4 hp5 hg15; have ckB := blk_cells (hkB3.below hb35 hkB3.lt))
    | ((with_reducible refine wpAtC ?_); refine wpList_load_agg rfl _ _ rfl _ _ rfl (kcell m b) hakB ckB ?_; simp only [Act.put, List.setIfInBounds_toArray, List.set_cons_succ, List.set_cons_zero]))
  have hb05 := bx_trans hb03 hb35
  have hkA5 := hkA3.below hb35 hkA3.lt
  have hkB5 := hkB3.below hb35 hkB3.lt
  have hz5 := hz3.below hb35 hz3.lt
  have hown5 := own_keep hown1 hb35
  have hows5 := hows1.below hb35
  have hx5 := hp5.blk
  clear ckB hkA3 hkB3 hz3 hown1 hows1 hp5 hb35 hb4 hz15 hb03
  refine (HR2.out w5 hb05).mono ?_
  rintro e w6 ⟨uo, us, rfl, hown2, hows2, hb6⟩
  obtain ⟨A2, c2, ev2, _⟩ := own_form hown2
  have hown2 := own_less hown2 hb05.size
  have hows2 := hows2.less hb05.size
  have hb06 := bx_trans hb05 hb6
  have hkA6 := hkA5.below hb6 hkA5.lt
  have hkB6 := hkB5.below hb6 hkB5.lt
  have hz6 := hz5.below hb6 hz5.lt
  have hown6 := own_keep hown5 hb6
  have hows6 := hows5.below hb6
  have hx6 := hx5.below hb6 hx5.lt
  rw [ev2] at hown2 ⊢
  clear hkA5 hkB5 hz5 hown5 hows5 hx5 hb6 hb05 ev2
  have heq1 := eq_hash a b ha hb
  have heq2 := eq_hash X1 a hX1 ha
  have heq3 := eq_hash X2 b hX2 hb
  have heq4 := eq_hash Y1 Y2 hY1 hY2
  have hg12w : w.heap.size ≤ g12 := by have := hb0.size; omega
  have HX1B : Hid (∀ W, Blk W g15 tHH (H1.map cb).toArray → (∀ j v, (X1.map cb)[j]? = some v → W.cell? ⟨g15, 0 + j, none⟩ = some v) ∧ (∀ j v, (Y1.map cb)[j]? = some v → W.cell? ⟨g15, 32 + j, none⟩ = some v)) := hid (fun W hW => by rw [HH1.out] at hW; exact ⟨pair_fst hW, pair_snd hX1 hW⟩)
  have HX2B : Hid (∀ g W, Blk W g tHH (H2.map cb).toArray → (∀ j v, (X2.map cb)[j]? = some v → W.cell? ⟨g, 0 + j, none⟩ = some v) ∧ (∀ j v, (Y2.map cb)[j]? = some v → W.cell? ⟨g, 32 + j, none⟩ = some v)) := hid (fun g W hW => by rw [HH2.out] at hW; exact ⟨pair_fst hW, pair_snd hX2 hW⟩)
  go_wp2_with (first
    | ((with_reducible refine wpAtC ?_); refine wpList_alloc (w := w6) rfl _ rfl zeroHH ?_; intro g18 w7 hg18 hg18' hz18 hb7; simp only [Act.put, List.setIfInBounds_toArray, List.set_cons_succ, List.set_cons_zero])
    | ((with_reducible refine wpAtC ?_); refine wpList_store_agg rfl _ _ _ rfl _ _ rfl (H2.map cb).toArray rfl (aggHHS hl2) hz18 (szHH hl2) (one_cbA _) ?_; intro w8 hp8; simp only [Act.put]; rw [splHH hl2] at hp8))
  have hb68 := bx_put hb7 hp8 hg18
  have hb08 := bx_trans hb06 hb68
  have hz8 := hz6.below hb68 hz6.lt
  have hkA8 := hkA6.below hb68 hkA6.lt
  have hkB8 := hkB6.below hb68 hkB6.lt
  have hlA := hkA8.lt
  have hlB := hkB8.lt
  have csA := kcell_size hkA8
  have csB := kcell_size hkB8
  have ca := kcell_root hkA8
  have cbb := kcell_root hkB8
  have cxy1 := HX1B.out _ (hx6.below hb68 hx6.lt)
  have cxy2 := HX2B.out _ _ hp8.blk
  have cx1 := cxy1.1
  have cy1 := cxy1.2
  have cx2 := cxy2.1
  have cy2 := cxy2.2
  have hl15 := (hx6.below hb68 hx6.lt).lt
  have hl18 := hp8.blk.lt
  have HO1 := hid (own_keep hown6 hb68)
  have HW1 := hid (hows6.below hb68)
  have HO2 := hid (own_keep hown2 hb68)
  have HW2 := hid (hows2.below hb68)
  clear cxy1 cxy2 hkA8 hkB8 hkA6 hkB6 hx6 hz6 hown6 hows6 hown2 hows2 hp8 hb7 hz18 hb68 hb06
  unfold Hold
  by_cases h1 : a = b
  · rw [show (a == b) = true by simpa using h1] at heq1
    have H1' := hid h1
    clear h1 heq2 heq3 heq4
    refine wp_region_lit ?_
    refine wp_flowSE [0, 1, 3, 7, 15, 31, 63, 127, 255, 511, 1023, 2047, 4095, 8191, 16383, 32767, 65535, 131071, 262143, 524287, 1048575, 2097151, 4194303, 8388607, 16777215, 33554431, 67108863, 134217727, 268435455, 536870911, 1073741823, 2147483647, 4294967295, 8589934591, 17179869183, 34359738367, 68719476735, 137438953471, 274877906943, 549755813887, 1099511627775] 41 [false, false, false, false, false, false, false, false, false, false, false, false, false, false, false, false, false, false, false, false, false, false, false, false, false, false, false, false, false, false, false, false, false, false, false, false, false, false, true, true, true, true, true, true, true, true, true, true, true, true, true, true, true, true, true, true, true, true, true, true, true, true, true, true, true, true, true, true, true, true, true, true, true, true, true, true, true, true, true] (by kernel_rfl) (by kernel_rfl) (by kernel_rfl) [FP.eq (.pointer (some ⟨w.heap.size, 0, none⟩)), FP.eq (.int .u64 (m : Int)), FP.eq (.pointer (some ⟨w.heap.size + 1, 0, none⟩)), FP.eq (.int .u64 (m : Int)), FP.eq (.bool false), FP.eq (.bool false), FP.eq (.pointer (some ⟨w.heap.size, 1, none⟩)), FP.eq (.agg (a.map cb).toArray), FP.eq (.pointer (some ⟨w.heap.size + 1, 1, none⟩)), FP.eq (.agg (b.map cb).toArray), FP.eq (.bool true), FP.eq (.bool true), FP.eq (.bool true), FP.any, FP.any, FP.eq (.bool true), FP.eq (.bool true), FP.any, FP.any, FP.eq (.bool true), FP.eq (.bool true), FP.any, FP.any, FP.any, FP.any, FP.any, FP.eq (.bool true), FP.eq (.bool true), FP.any, FP.any, FP.any, FP.any, FP.any, FP.eq (.bool true), FP.eq (.bool true), FP.any, FP.any, FP.any, FP.any, FP.any, FP.eq (.bool true)] ?_ ?_
    · refine allFrom_cons ?_ ?_
      · intro a_ w_ hk_
        have h7 : a_.eval (.tmp 7) = .pointer (some ⟨w.heap.size, 0, none⟩) := hk_.old 7 (by kernel_rfl)
        have hx_ := hk_.ext
        clear hk_
        refine flow_plain rfl ?_
        unfold gives
        have hc_ : ∀ v, a_.eval (.const v) = v := fun _ => rfl
        have hn_ : ∀ f, a_.eval (.func f) = .func (.func f) #[] #[] := fun _ => rfl
        generalize a_.eval = ρ_ at *
        go_simp
        exact ⟨Below.refl _ _, rfl⟩
      refine allFrom_cons ?_ ?_
      · intro a_ w_ hk_
        have h38 : a_.eval (.tmp 38) = (.pointer (some ⟨w.heap.size, 0, none⟩)) := hk_.got 0 38 _ (by kernel_rfl) rfl rfl
        have hx_ := hk_.ext
        clear hk_
        refine flow_plain rfl ?_
        unfold gives
        have hc_ : ∀ v, a_.eval (.const v) = v := fun _ => rfl
        have hn_ : ∀ f, a_.eval (.func f) = .func (.func f) #[] #[] := fun _ => rfl
        have hcell := (hx_.cell (p := ⟨w.heap.size, 0, none⟩) hlA).trans csA
        generalize a_.eval = ρ_ at *
        go_simp
        exact ⟨Below.refl _ _, rfl⟩
      refine allFrom_cons ?_ ?_
      · intro a_ w_ hk_
        have h8 : a_.eval (.tmp 8) = .pointer (some ⟨w.heap.size + 1, 0, none⟩) := hk_.old 8 (by kernel_rfl)
        have hx_ := hk_.ext
        clear hk_
        refine flow_plain rfl ?_
        unfold gives
        have hc_ : ∀ v, a_.eval (.const v) = v := fun _ => rfl
        have hn_ : ∀ f, a_.eval (.func f) = .func (.func f) #[] #[] := fun _ => rfl
        generalize a_.eval = ρ_ at *
        go_simp
        exact ⟨Below.refl _ _, rfl⟩
      refine allFrom_cons ?_ ?_
      · intro a_ w_ hk_
        have h40 : a_.eval (.tmp 40) = (.pointer (some ⟨w.heap.size + 1, 0, none⟩)) := hk_.got 2 40 _ (by kernel_rfl) rfl rfl
        have hx_ := hk_.ext
        clear hk_
        refine flow_plain rfl ?_
        unfold gives
        have hc_ : ∀ v, a_.eval (.const v) = v := fun _ => rfl
        have hn_ : ∀ f, a_.eval (.func f) = .func (.func f) #[] #[] := fun _ => rfl
        have hcell := (hx_.cell (p := ⟨w.heap.size + 1, 0, none⟩) hlB).trans csB
        generalize a_.eval = ρ_ at *
        go_simp
        exact ⟨Below.refl _ _, rfl⟩
      refine allFrom_cons ?_ ?_
      · intro a_ w_ hk_
        have h39 : a_.eval (.tmp 39) = (.int .u64 (m : Int)) := hk_.got 1 39 _ (by kernel_rfl) rfl rfl
        have h41 : a_.eval (.tmp 41) = (.int .u64 (m : Int)) := hk_.got 3 41 _ (by kernel_rfl) rfl rfl
        have hx_ := hk_.ext
        clear hk_
        refine flow_plain rfl ?_
        unfold gives
        have hc_ : ∀ v, a_.eval (.const v) = v := fun _ => rfl
        have hn_ : ∀ f, a_.eval (.func f) = .func (.func f) #[] #[] := fun _ => rfl
        generalize a_.eval = ρ_ at *
        go_simp
        exact ⟨Below.refl _ _, rfl⟩
      refine allFrom_cons ?_ ?_
      · intro a_ w_ hk_
        have h42 : a_.eval (.tmp 42) = (.bool false) := hk_.got 4 42 _ (by kernel_rfl) rfl rfl
        have hx_ := hk_.ext
        clear hk_
        refine flow_plain rfl ?_
        exact gives_move rfl ⟨Below.refl _ _, h42⟩
      refine allFrom_cons ?_ ?_
      · intro a_ w_ hk_
        have h7 : a_.eval (.tmp 7) = .pointer (some ⟨w.heap.size, 0, none⟩) := hk_.old 7 (by kernel_rfl)
        have hg_ : a_.eval (.tmp 43) = .bool false := hk_.got 5 43 _ (by kernel_rfl) rfl rfl
        have hy_ := hk_.want 5 _ 43 false rfl rfl hg_
        have hx_ := hk_.ext
        clear hk_
        refine flow_want rfl hy_ ?_
        unfold gives
        have hc_ : ∀ v, a_.eval (.const v) = v := fun _ => rfl
        have hn_ : ∀ f, a_.eval (.func f) = .func (.func f) #[] #[] := fun _ => rfl
        clear hy_ hg_
        generalize a_.eval = ρ_ at *
        go_simp
        exact ⟨Below.refl _ _, rfl⟩
      refine allFrom_cons ?_ ?_
      · intro a_ w_ hk_
        have h44 : a_.eval (.tmp 44) = (.pointer (some ⟨w.heap.size, 1, none⟩)) := hk_.got 6 44 _ (by kernel_rfl) rfl rfl
        have hg_ : a_.eval (.tmp 43) = .bool false := hk_.got 5 43 _ (by kernel_rfl) rfl rfl
        have hy_ := hk_.want 5 _ 43 false rfl rfl hg_
        have hx_ := hk_.ext
        clear hk_
        refine flow_want rfl hy_ ?_
        exact gives_ldC rfl h44 (aggHL ha) (fun j v hv => (hx_.cell (p := ⟨_, _, none⟩) hlA).trans (ca j v hv)) ⟨Below.refl _ _, rfl⟩
      refine allFrom_cons ?_ ?_
      · intro a_ w_ hk_
        have h8 : a_.eval (.tmp 8) = .pointer (some ⟨w.heap.size + 1, 0, none⟩) := hk_.old 8 (by kernel_rfl)
        have hg_ : a_.eval (.tmp 43) = .bool false := hk_.got 5 43 _ (by kernel_rfl) rfl rfl
        have hy_ := hk_.want 5 _ 43 false rfl rfl hg_
        have hx_ := hk_.ext
        clear hk_
        refine flow_want rfl hy_ ?_
        unfold gives
        have hc_ : ∀ v, a_.eval (.const v) = v := fun _ => rfl
        have hn_ : ∀ f, a_.eval (.func f) = .func (.func f) #[] #[] := fun _ => rfl
        clear hy_ hg_
        generalize a_.eval = ρ_ at *
        go_simp
        exact ⟨Below.refl _ _, rfl⟩
      refine allFrom_cons ?_ ?_
      · intro a_ w_ hk_
        have h46 : a_.eval (.tmp 46) = (.pointer (some ⟨w.heap.size + 1, 1, none⟩)) := hk_.got 8 46 _ (by kernel_rfl) rfl rfl
        have hg_ : a_.eval (.tmp 43) = .bool false := hk_.got 5 43 _ (by kernel_rfl) rfl rfl
        have hy_ := hk_.want 5 _ 43 false rfl rfl hg_
        have hx_ := hk_.ext
        clear hk_
        refine flow_want rfl hy_ ?_
        exact gives_ldC rfl h46 (aggHL hb) (fun j v hv => (hx_.cell (p := ⟨_, _, none⟩) hlB).trans (cbb j v hv)) ⟨Below.refl _ _, rfl⟩
      refine allFrom_cons ?_ ?_
      · intro a_ w_ hk_
        have h45 : a_.eval (.tmp 45) = (.agg (a.map cb).toArray) := hk_.got 7 45 _ (by kernel_rfl) rfl rfl
        have h47 : a_.eval (.tmp 47) = (.agg (b.map cb).toArray) := hk_.got 9 47 _ (by kernel_rfl) rfl rfl
        have hg_ : a_.eval (.tmp 43) = .bool false := hk_.got 5 43 _ (by kernel_rfl) rfl rfl
        have hy_ := hk_.want 5 _ 43 false rfl rfl hg_
        have hx_ := hk_.ext
        clear hk_
        refine flow_want rfl hy_ ?_
        unfold gives
        have hc_ : ∀ v, a_.eval (.const v) = v := fun _ => rfl
        have hn_ : ∀ f, a_.eval (.func f) = .func (.func f) #[] #[] := fun _ => rfl
        clear hy_ hg_
        generalize a_.eval = ρ_ at *
        go_simp
        exact ⟨Below.refl _ _, rfl⟩
      refine allFrom_cons ?_ ?_
      · intro a_ w_ hk_
        have h43 : a_.eval (.tmp 43) = (.bool false) := hk_.got 5 43 _ (by kernel_rfl) rfl rfl
        have h48 : a_.eval (.tmp 48) = (.bool true) := hk_.got 10 48 _ (by kernel_rfl) rfl rfl
        have hx_ := hk_.ext
        clear hk_
        refine flow_plain rfl ?_
        exact gives_pick rfl h43 ⟨Below.refl _ _, h48⟩
      refine allFrom_cons ?_ ?_
      · intro a_ w_ hk_
        have h49 : a_.eval (.tmp 49) = (.bool true) := hk_.got 11 49 _ (by kernel_rfl) rfl rfl
        have hx_ := hk_.ext
        clear hk_
        refine flow_plain rfl ?_
        exact gives_move rfl ⟨Below.refl _ _, h49⟩
      refine allFrom_cons ?_ ?_
      · intro a_ w_ hk_
        have h16 : a_.eval (.tmp 16) = .int .i64 E := hk_.old 16 (by kernel_rfl)
        have hg_ : a_.eval (.tmp 50) = .bool true := hk_.got 12 50 _ (by kernel_rfl) rfl rfl
        have hy_ := hk_.want 12 _ 50 true rfl rfl hg_
        have hx_ := hk_.ext
        clear hk_
        exact flow_skip rfl hy_ (by decide) trivial
      refine allFrom_cons ?_ ?_
      · intro a_ w_ hk_
        have hg_ : a_.eval (.tmp 50) = .bool true := hk_.got 12 50 _ (by kernel_rfl) rfl rfl
        have hy_ := hk_.want 12 _ 50 true rfl rfl hg_
        have hx_ := hk_.ext
        clear hk_
        exact flow_skip rfl hy_ (by decide) trivial
      refine allFrom_cons ?_ ?_
      · intro a_ w_ hk_
        have h50 : a_.eval (.tmp 50) = (.bool true) := hk_.got 12 50 _ (by kernel_rfl) rfl rfl
        have hx_ := hk_.ext
        clear hk_
        refine flow_plain rfl ?_
        exact gives_pick rfl h50 ⟨Below.refl _ _, rfl⟩
      refine allFrom_cons ?_ ?_
      · intro a_ w_ hk_
        have h53 : a_.eval (.tmp 53) = (.bool true) := hk_.got 15 53 _ (by kernel_rfl) rfl rfl
        have hx_ := hk_.ext
        clear hk_
        refine flow_plain rfl ?_
        exact gives_move rfl ⟨Below.refl _ _, h53⟩
      refine allFrom_cons ?_ ?_
      · intro a_ w_ hk_
        have h19 : a_.eval (.tmp 19) = .int .i64 F := hk_.old 19 (by kernel_rfl)
        have hg_ : a_.eval (.tmp 54) = .bool true := hk_.got 16 54 _ (by kernel_rfl) rfl rfl
        have hy_ := hk_.want 16 _ 54 true rfl rfl hg_
        have hx_ := hk_.ext
        clear hk_
        exact flow_skip rfl hy_ (by decide) trivial
      refine allFrom_cons ?_ ?_
      · intro a_ w_ hk_
        have hg_ : a_.eval (.tmp 54) = .bool true := hk_.got 16 54 _ (by kernel_rfl) rfl rfl
        have hy_ := hk_.want 16 _ 54 true rfl rfl hg_
        have hx_ := hk_.ext
        clear hk_
        exact flow_skip rfl hy_ (by decide) trivial
      refine allFrom_cons ?_ ?_
      · intro a_ w_ hk_
        have h54 : a_.eval (.tmp 54) = (.bool true) := hk_.got 16 54 _ (by kernel_rfl) rfl rfl
        have hx_ := hk_.ext
        clear hk_
        refine flow_plain rfl ?_
        exact gives_pick rfl h54 ⟨Below.refl _ _, rfl⟩
      refine allFrom_cons ?_ ?_
      · intro a_ w_ hk_
        have h57 : a_.eval (.tmp 57) = (.bool true) := hk_.got 19 57 _ (by kernel_rfl) rfl rfl
        have hx_ := hk_.ext
        clear hk_
        refine flow_plain rfl ?_
        exact gives_move rfl ⟨Below.refl _ _, h57⟩
      refine allFrom_cons ?_ ?_
      · intro a_ w_ hk_
        have h15 : a_.eval (.tmp 15) = .pointer (some ⟨g15, 0, none⟩) := hk_.old 15 (by kernel_rfl)
        have hg_ : a_.eval (.tmp 58) = .bool true := hk_.got 20 58 _ (by kernel_rfl) rfl rfl
        have hy_ := hk_.want 20 _ 58 true rfl rfl hg_
        have hx_ := hk_.ext
        clear hk_
        exact flow_skip rfl hy_ (by decide) trivial
      refine allFrom_cons ?_ ?_
      · intro a_ w_ hk_
        have hg_ : a_.eval (.tmp 58) = .bool true := hk_.got 20 58 _ (by kernel_rfl) rfl rfl
        have hy_ := hk_.want 20 _ 58 true rfl rfl hg_
        have hx_ := hk_.ext
        clear hk_
        exact flow_skip rfl hy_ (by decide) trivial
      refine allFrom_cons ?_ ?_
      · intro a_ w_ hk_
        have h7 : a_.eval (.tmp 7) = .pointer (some ⟨w.heap.size, 0, none⟩) := hk_.old 7 (by kernel_rfl)
        have hg_ : a_.eval (.tmp 58) = .bool true := hk_.got 20 58 _ (by kernel_rfl) rfl rfl
        have hy_ := hk_.want 20 _ 58 true rfl rfl hg_
        have hx_ := hk_.ext
        clear hk_
        exact flow_skip rfl hy_ (by decide) trivial
      refine allFrom_cons ?_ ?_
      · intro a_ w_ hk_
        have hg_ : a_.eval (.tmp 58) = .bool true := hk_.got 20 58 _ (by kernel_rfl) rfl rfl
        have hy_ := hk_.want 20 _ 58 true rfl rfl hg_
        have hx_ := hk_.ext
        clear hk_
        exact flow_skip rfl hy_ (by decide) trivial
      refine allFrom_cons ?_ ?_
      · intro a_ w_ hk_
        have hg_ : a_.eval (.tmp 58) = .bool true := hk_.got 20 58 _ (by kernel_rfl) rfl rfl
        have hy_ := hk_.want 20 _ 58 true rfl rfl hg_
        have hx_ := hk_.ext
        clear hk_
        exact flow_skip rfl hy_ (by decide) trivial
      refine allFrom_cons ?_ ?_
      · intro a_ w_ hk_
        have h58 : a_.eval (.tmp 58) = (.bool true) := hk_.got 20 58 _ (by kernel_rfl) rfl rfl
        have hx_ := hk_.ext
        clear hk_
        refine flow_plain rfl ?_
        exact gives_pick rfl h58 ⟨Below.refl _ _, rfl⟩
      refine allFrom_cons ?_ ?_
      · intro a_ w_ hk_
        have h64 : a_.eval (.tmp 64) = (.bool true) := hk_.got 26 64 _ (by kernel_rfl) rfl rfl
        have hx_ := hk_.ext
        clear hk_
        refine flow_plain rfl ?_
        exact gives_move rfl ⟨Below.refl _ _, h64⟩
      refine allFrom_cons ?_ ?_
      · intro a_ w_ hk_
        have h18 : a_.eval (.tmp 18) = .pointer (some ⟨g18, 0, none⟩) := hk_.old 18 (by kernel_rfl)
        have hg_ : a_.eval (.tmp 65) = .bool true := hk_.got 27 65 _ (by kernel_rfl) rfl rfl
        have hy_ := hk_.want 27 _ 65 true rfl rfl hg_
        have hx_ := hk_.ext
        clear hk_
        exact flow_skip rfl hy_ (by decide) trivial
      refine allFrom_cons ?_ ?_
      · intro a_ w_ hk_
        have hg_ : a_.eval (.tmp 65) = .bool true := hk_.got 27 65 _ (by kernel_rfl) rfl rfl
        have hy_ := hk_.want 27 _ 65 true rfl rfl hg_
        have hx_ := hk_.ext
        clear hk_
        exact flow_skip rfl hy_ (by decide) trivial
      refine allFrom_cons ?_ ?_
      · intro a_ w_ hk_
        have h8 : a_.eval (.tmp 8) = .pointer (some ⟨w.heap.size + 1, 0, none⟩) := hk_.old 8 (by kernel_rfl)
        have hg_ : a_.eval (.tmp 65) = .bool true := hk_.got 27 65 _ (by kernel_rfl) rfl rfl
        have hy_ := hk_.want 27 _ 65 true rfl rfl hg_
        have hx_ := hk_.ext
        clear hk_
        exact flow_skip rfl hy_ (by decide) trivial
      refine allFrom_cons ?_ ?_
      · intro a_ w_ hk_
        have hg_ : a_.eval (.tmp 65) = .bool true := hk_.got 27 65 _ (by kernel_rfl) rfl rfl
        have hy_ := hk_.want 27 _ 65 true rfl rfl hg_
        have hx_ := hk_.ext
        clear hk_
        exact flow_skip rfl hy_ (by decide) trivial
      refine allFrom_cons ?_ ?_
      · intro a_ w_ hk_
        have hg_ : a_.eval (.tmp 65) = .bool true := hk_.got 27 65 _ (by kernel_rfl) rfl rfl
        have hy_ := hk_.want 27 _ 65 true rfl rfl hg_
        have hx_ := hk_.ext
        clear hk_
        exact flow_skip rfl hy_ (by decide) trivial
      refine allFrom_cons ?_ ?_
      · intro a_ w_ hk_
        have h65 : a_.eval (.tmp 65) = (.bool true) := hk_.got 27 65 _ (by kernel_rfl) rfl rfl
        have hx_ := hk_.ext
        clear hk_
        refine flow_plain rfl ?_
        exact gives_pick rfl h65 ⟨Below.refl _ _, rfl⟩
      refine allFrom_cons ?_ ?_
      · intro a_ w_ hk_
        have h71 : a_.eval (.tmp 71) = (.bool true) := hk_.got 33 71 _ (by kernel_rfl) rfl rfl
        have hx_ := hk_.ext
        clear hk_
        refine flow_plain rfl ?_
        exact gives_move rfl ⟨Below.refl _ _, h71⟩
      refine allFrom_cons ?_ ?_
      · intro a_ w_ hk_
        have h15 : a_.eval (.tmp 15) = .pointer (some ⟨g15, 0, none⟩) := hk_.old 15 (by kernel_rfl)
        have hg_ : a_.eval (.tmp 72) = .bool true := hk_.got 34 72 _ (by kernel_rfl) rfl rfl
        have hy_ := hk_.want 34 _ 72 true rfl rfl hg_
        have hx_ := hk_.ext
        clear hk_
        exact flow_skip rfl hy_ (by decide) trivial
      refine allFrom_cons ?_ ?_
      · intro a_ w_ hk_
        have hg_ : a_.eval (.tmp 72) = .bool true := hk_.got 34 72 _ (by kernel_rfl) rfl rfl
        have hy_ := hk_.want 34 _ 72 true rfl rfl hg_
        have hx_ := hk_.ext
        clear hk_
        exact flow_skip rfl hy_ (by decide) trivial
      refine allFrom_cons ?_ ?_
      · intro a_ w_ hk_
        have h18 : a_.eval (.tmp 18) = .pointer (some ⟨g18, 0, none⟩) := hk_.old 18 (by kernel_rfl)
        have hg_ : a_.eval (.tmp 72) = .bool true := hk_.got 34 72 _ (by kernel_rfl) rfl rfl
        have hy_ := hk_.want 34 _ 72 true rfl rfl hg_
        have hx_ := hk_.ext
        clear hk_
        exact flow_skip rfl hy_ (by decide) trivial
      refine allFrom_cons ?_ ?_
      · intro a_ w_ hk_
        have hg_ : a_.eval (.tmp 72) = .bool true := hk_.got 34 72 _ (by kernel_rfl) rfl rfl
        have hy_ := hk_.want 34 _ 72 true rfl rfl hg_
        have hx_ := hk_.ext
        clear hk_
        exact flow_skip rfl hy_ (by decide) trivial
      refine allFrom_cons ?_ ?_
      · intro a_ w_ hk_
        have hg_ : a_.eval (.tmp 72) = .bool true := hk_.got 34 72 _ (by kernel_rfl) rfl rfl
        have hy_ := hk_.want 34 _ 72 true rfl rfl hg_
        have hx_ := hk_.ext
        clear hk_
        exact flow_skip rfl hy_ (by decide) trivial
      refine allFrom_cons ?_ ?_
      · intro a_ w_ hk_
        have h72 : a_.eval (.tmp 72) = (.bool true) := hk_.got 34 72 _ (by kernel_rfl) rfl rfl
        have hx_ := hk_.ext
        clear hk_
        refine flow_plain rfl ?_
        exact gives_pick rfl h72 ⟨Below.refl _ _, rfl⟩
      exact allFrom_nil
    intro f_ w_ hx_ hf_
    have h38 : f_ 38 = (.pointer (some ⟨w.heap.size, 0, none⟩)) := hf_ 0 38 _ (by decide) rfl rfl
    have h39 : f_ 39 = (.int .u64 (m : Int)) := hf_ 1 39 _ (by decide) rfl rfl
    have h40 : f_ 40 = (.pointer (some ⟨w.heap.size + 1, 0, none⟩)) := hf_ 2 40 _ (by decide) rfl rfl
    have h41 : f_ 41 = (.int .u64 (m : Int)) := hf_ 3 41 _ (by decide) rfl rfl
    have h42 : f_ 42 = (.bool false) := hf_ 4 42 _ (by decide) rfl rfl
    have h43 : f_ 43 = (.bool false) := hf_ 5 43 _ (by decide) rfl rfl
    have h44 : f_ 44 = (.pointer (some ⟨w.heap.size, 1, none⟩)) := hf_ 6 44 _ (by decide) rfl rfl
    have h45 : f_ 45 = (.agg (a.map cb).toArray) := hf_ 7 45 _ (by decide) rfl rfl
    have h46 : f_ 46 = (.pointer (some ⟨w.heap.size + 1, 1, none⟩)) := hf_ 8 46 _ (by decide) rfl rfl
    have h47 : f_ 47 = (.agg (b.map cb).toArray) := hf_ 9 47 _ (by decide) rfl rfl
    have h48 : f_ 48 = (.bool true) := hf_ 10 48 _ (by decide) rfl rfl
    have h49 : f_ 49 = (.bool true) := hf_ 11 49 _ (by decide) rfl rfl
    have h50 : f_ 50 = (.bool true) := hf_ 12 50 _ (by decide) rfl rfl
    have h53 : f_ 53 = (.bool true) := hf_ 15 53 _ (by decide) rfl rfl
    have h54 : f_ 54 = (.bool true) := hf_ 16 54 _ (by decide) rfl rfl
    have h57 : f_ 57 = (.bool true) := hf_ 19 57 _ (by decide) rfl rfl
    have h58 : f_ 58 = (.bool true) := hf_ 20 58 _ (by decide) rfl rfl
    have h64 : f_ 64 = (.bool true) := hf_ 26 64 _ (by decide) rfl rfl
    have h65 : f_ 65 = (.bool true) := hf_ 27 65 _ (by decide) rfl rfl
    have h71 : f_ 71 = (.bool true) := hf_ 33 71 _ (by decide) rfl rfl
    have h72 : f_ 72 = (.bool true) := hf_ 34 72 _ (by decide) rfl rfl
    have h78 : f_ 78 = (.bool true) := hf_ 40 78 _ (by decide) rfl rfl
    simp only [mix, h38, h39, h40, h41, h42, h43, h44, h45, h46, h47, h48, h49, h50, h53, h54, h57, h58, h64, h65, h71, h72, h78]
    clear h38 h39 h40 h41 h42 h43 h44 h45 h46 h47 h48 h49 h50 h53 h54 h57 h58 h64 h65 h71 h72 h78
    clear hf_
    have hzf := hz8.below hx_ hz8.lt
    have hbf := bx_trans hb08 hx_
    clear hx_
    go_wp2_with (first
      | ((with_reducible refine wpAtC ?_); refine wpList_gives rfl (gives_build (S := fun v w' => v = .agg #[nilC, nilC] ∧ w' = _) tCl #[] rfl [] (by simp) bltClN ⟨rfl, rfl⟩) ?_; rintro v12 w12 ⟨rfl, rfl⟩; simp only [Act.put, List.setIfInBounds_toArray, List.set_cons_succ, List.set_cons_zero])
      | ((with_reducible refine wpAtC ?_); refine wpList_store_agg rfl _ _ _ rfl _ _ rfl #[nilC, nilC] rfl (aggCl _ _) hzf (Nat.le_refl _) (by intro v hv; simp at hv; rcases hv with rfl | rfl <;> rfl) ?_; intro w13 hp13; simp only [Act.put]))
    exact bodyPost_ret (results_h2 (cs := [nilC, nilC]) rfl rfl (aggCl _ _) (blk_cells hp13.blk)) rfl ⟨bx_put hbf hp13 hg12w, .inl ⟨.inl (by rw [HG.out]; rintro ⟨k1, k2, k3, k4, k5, k6⟩; exact k1 H1'.out), rfl⟩⟩
  rw [show (a == b) = false by simpa using h1] at heq1
  have H1' := hid h1
  clear h1
  by_cases h2 : E = 0
  rotate_left
  · have H2' := hid h2
    have hE2 : (E != 0) = true := by simpa using h2
    clear heq2 heq3 heq4
    refine wp_region_lit ?_
    refine wp_flowSE [0, 1, 3, 7, 15, 31, 63, 127, 255, 511, 1023, 2047, 4095, 8191, 16383, 32767, 65535, 131071, 262143, 524287, 1048575, 2097151, 4194303, 8388607, 16777215, 33554431, 67108863, 134217727, 268435455, 536870911, 1073741823, 2147483647, 4294967295, 8589934591, 17179869183, 34359738367, 68719476735, 137438953471, 274877906943, 549755813887, 1099511627775] 41 [false, false, false, false, false, false, false, false, false, false, false, false, false, false, false, false, false, false, false, false, false, false, false, false, false, false, false, false, false, false, false, false, false, false, false, false, false, false, true, true, true, true, true, true, true, true, true, true, true, true, true, true, true, true, true, true, true, true, true, true, true, true, true, true, true, true, true, true, true, true, true, true, true, true, true, true, true, true, true] (by kernel_rfl) (by kernel_rfl) (by kernel_rfl) [FP.eq (.pointer (some ⟨w.heap.size, 0, none⟩)), FP.eq (.int .u64 (m : Int)), FP.eq (.pointer (some ⟨w.heap.size + 1, 0, none⟩)), FP.eq (.int .u64 (m : Int)), FP.eq (.bool false), FP.eq (.bool false), FP.eq (.pointer (some ⟨w.heap.size, 1, none⟩)), FP.eq (.agg (a.map cb).toArray), FP.eq (.pointer (some ⟨w.heap.size + 1, 1, none⟩)), FP.eq (.agg (b.map cb).toArray), FP.eq (.bool false), FP.eq (.bool false), FP.eq (.bool false), FP.eq (.int .i64 E), FP.eq (.bool true), FP.eq (.bool true), FP.eq (.bool true), FP.any, FP.any, FP.eq (.bool true), FP.eq (.bool true), FP.any, FP.any, FP.any, FP.any, FP.any, FP.eq (.bool true), FP.eq (.bool true), FP.any, FP.any, FP.any, FP.any, FP.any, FP.eq (.bool true), FP.eq (.bool true), FP.any, FP.any, FP.any, FP.any, FP.any, FP.eq (.bool true)] ?_ ?_
    · refine allFrom_cons ?_ ?_
      · intro a_ w_ hk_
        have h7 : a_.eval (.tmp 7) = .pointer (some ⟨w.heap.size, 0, none⟩) := hk_.old 7 (by kernel_rfl)
        have hx_ := hk_.ext
        clear hk_
        refine flow_plain rfl ?_
        unfold gives
        have hc_ : ∀ v, a_.eval (.const v) = v := fun _ => rfl
        have hn_ : ∀ f, a_.eval (.func f) = .func (.func f) #[] #[] := fun _ => rfl
        generalize a_.eval = ρ_ at *
        go_simp
        exact ⟨Below.refl _ _, rfl⟩
      refine allFrom_cons ?_ ?_
      · intro a_ w_ hk_
        have h38 : a_.eval (.tmp 38) = (.pointer (some ⟨w.heap.size, 0, none⟩)) := hk_.got 0 38 _ (by kernel_rfl) rfl rfl
        have hx_ := hk_.ext
        clear hk_
        refine flow_plain rfl ?_
        unfold gives
        have hc_ : ∀ v, a_.eval (.const v) = v := fun _ => rfl
        have hn_ : ∀ f, a_.eval (.func f) = .func (.func f) #[] #[] := fun _ => rfl
        have hcell := (hx_.cell (p := ⟨w.heap.size, 0, none⟩) hlA).trans csA
        generalize a_.eval = ρ_ at *
        go_simp
        exact ⟨Below.refl _ _, rfl⟩
      refine allFrom_cons ?_ ?_
      · intro a_ w_ hk_
        have h8 : a_.eval (.tmp 8) = .pointer (some ⟨w.heap.size + 1, 0, none⟩) := hk_.old 8 (by kernel_rfl)
        have hx_ := hk_.ext
        clear hk_
        refine flow_plain rfl ?_
        unfold gives
        have hc_ : ∀ v, a_.eval (.const v) = v := fun _ => rfl
        have hn_ : ∀ f, a_.eval (.func f) = .func (.func f) #[] #[] := fun _ => rfl
        generalize a_.eval = ρ_ at *
        go_simp
        exact ⟨Below.refl _ _, rfl⟩
      refine allFrom_cons ?_ ?_
      · intro a_ w_ hk_
        have h40 : a_.eval (.tmp 40) = (.pointer (some ⟨w.heap.size + 1, 0, none⟩)) := hk_.got 2 40 _ (by kernel_rfl) rfl rfl
        have hx_ := hk_.ext
        clear hk_
        refine flow_plain rfl ?_
        unfold gives
        have hc_ : ∀ v, a_.eval (.const v) = v := fun _ => rfl
        have hn_ : ∀ f, a_.eval (.func f) = .func (.func f) #[] #[] := fun _ => rfl
        have hcell := (hx_.cell (p := ⟨w.heap.size + 1, 0, none⟩) hlB).trans csB
        generalize a_.eval = ρ_ at *
        go_simp
        exact ⟨Below.refl _ _, rfl⟩
      refine allFrom_cons ?_ ?_
      · intro a_ w_ hk_
        have h39 : a_.eval (.tmp 39) = (.int .u64 (m : Int)) := hk_.got 1 39 _ (by kernel_rfl) rfl rfl
        have h41 : a_.eval (.tmp 41) = (.int .u64 (m : Int)) := hk_.got 3 41 _ (by kernel_rfl) rfl rfl
        have hx_ := hk_.ext
        clear hk_
        refine flow_plain rfl ?_
        unfold gives
        have hc_ : ∀ v, a_.eval (.const v) = v := fun _ => rfl
        have hn_ : ∀ f, a_.eval (.func f) = .func (.func f) #[] #[] := fun _ => rfl
        generalize a_.eval = ρ_ at *
        go_simp
        exact ⟨Below.refl _ _, rfl⟩
      refine allFrom_cons ?_ ?_
      · intro a_ w_ hk_
        have h42 : a_.eval (.tmp 42) = (.bool false) := hk_.got 4 42 _ (by kernel_rfl) rfl rfl
        have hx_ := hk_.ext
        clear hk_
        refine flow_plain rfl ?_
        exact gives_move rfl ⟨Below.refl _ _, h42⟩
      refine allFrom_cons ?_ ?_
      · intro a_ w_ hk_
        have h7 : a_.eval (.tmp 7) = .pointer (some ⟨w.heap.size, 0, none⟩) := hk_.old 7 (by kernel_rfl)
        have hg_ : a_.eval (.tmp 43) = .bool false := hk_.got 5 43 _ (by kernel_rfl) rfl rfl
        have hy_ := hk_.want 5 _ 43 false rfl rfl hg_
        have hx_ := hk_.ext
        clear hk_
        refine flow_want rfl hy_ ?_
        unfold gives
        have hc_ : ∀ v, a_.eval (.const v) = v := fun _ => rfl
        have hn_ : ∀ f, a_.eval (.func f) = .func (.func f) #[] #[] := fun _ => rfl
        clear hy_ hg_
        generalize a_.eval = ρ_ at *
        go_simp
        exact ⟨Below.refl _ _, rfl⟩
      refine allFrom_cons ?_ ?_
      · intro a_ w_ hk_
        have h44 : a_.eval (.tmp 44) = (.pointer (some ⟨w.heap.size, 1, none⟩)) := hk_.got 6 44 _ (by kernel_rfl) rfl rfl
        have hg_ : a_.eval (.tmp 43) = .bool false := hk_.got 5 43 _ (by kernel_rfl) rfl rfl
        have hy_ := hk_.want 5 _ 43 false rfl rfl hg_
        have hx_ := hk_.ext
        clear hk_
        refine flow_want rfl hy_ ?_
        exact gives_ldC rfl h44 (aggHL ha) (fun j v hv => (hx_.cell (p := ⟨_, _, none⟩) hlA).trans (ca j v hv)) ⟨Below.refl _ _, rfl⟩
      refine allFrom_cons ?_ ?_
      · intro a_ w_ hk_
        have h8 : a_.eval (.tmp 8) = .pointer (some ⟨w.heap.size + 1, 0, none⟩) := hk_.old 8 (by kernel_rfl)
        have hg_ : a_.eval (.tmp 43) = .bool false := hk_.got 5 43 _ (by kernel_rfl) rfl rfl
        have hy_ := hk_.want 5 _ 43 false rfl rfl hg_
        have hx_ := hk_.ext
        clear hk_
        refine flow_want rfl hy_ ?_
        unfold gives
        have hc_ : ∀ v, a_.eval (.const v) = v := fun _ => rfl
        have hn_ : ∀ f, a_.eval (.func f) = .func (.func f) #[] #[] := fun _ => rfl
        clear hy_ hg_
        generalize a_.eval = ρ_ at *
        go_simp
        exact ⟨Below.refl _ _, rfl⟩
      refine allFrom_cons ?_ ?_
      · intro a_ w_ hk_
        have h46 : a_.eval (.tmp 46) = (.pointer (some ⟨w.heap.size + 1, 1, none⟩)) := hk_.got 8 46 _ (by kernel_rfl) rfl rfl
        have hg_ : a_.eval (.tmp 43) = .bool false := hk_.got 5 43 _ (by kernel_rfl) rfl rfl
        have hy_ := hk_.want 5 _ 43 false rfl rfl hg_
        have hx_ := hk_.ext
        clear hk_
        refine flow_want rfl hy_ ?_
        exact gives_ldC rfl h46 (aggHL hb) (fun j v hv => (hx_.cell (p := ⟨_, _, none⟩) hlB).trans (cbb j v hv)) ⟨Below.refl _ _, rfl⟩
      refine allFrom_cons ?_ ?_
      · intro a_ w_ hk_
        have h45 : a_.eval (.tmp 45) = (.agg (a.map cb).toArray) := hk_.got 7 45 _ (by kernel_rfl) rfl rfl
        have h47 : a_.eval (.tmp 47) = (.agg (b.map cb).toArray) := hk_.got 9 47 _ (by kernel_rfl) rfl rfl
        have hg_ : a_.eval (.tmp 43) = .bool false := hk_.got 5 43 _ (by kernel_rfl) rfl rfl
        have hy_ := hk_.want 5 _ 43 false rfl rfl hg_
        have hx_ := hk_.ext
        clear hk_
        refine flow_want rfl hy_ ?_
        unfold gives
        have hc_ : ∀ v, a_.eval (.const v) = v := fun _ => rfl
        have hn_ : ∀ f, a_.eval (.func f) = .func (.func f) #[] #[] := fun _ => rfl
        clear hy_ hg_
        generalize a_.eval = ρ_ at *
        go_simp
        exact ⟨Below.refl _ _, rfl⟩
      refine allFrom_cons ?_ ?_
      · intro a_ w_ hk_
        have h43 : a_.eval (.tmp 43) = (.bool false) := hk_.got 5 43 _ (by kernel_rfl) rfl rfl
        have h48 : a_.eval (.tmp 48) = (.bool false) := hk_.got 10 48 _ (by kernel_rfl) rfl rfl
        have hx_ := hk_.ext
        clear hk_
        refine flow_plain rfl ?_
        exact gives_pick rfl h43 ⟨Below.refl _ _, h48⟩
      refine allFrom_cons ?_ ?_
      · intro a_ w_ hk_
        have h49 : a_.eval (.tmp 49) = (.bool false) := hk_.got 11 49 _ (by kernel_rfl) rfl rfl
        have hx_ := hk_.ext
        clear hk_
        refine flow_plain rfl ?_
        exact gives_move rfl ⟨Below.refl _ _, h49⟩
      refine allFrom_cons ?_ ?_
      · intro a_ w_ hk_
        have h16 : a_.eval (.tmp 16) = .int .i64 E := hk_.old 16 (by kernel_rfl)
        have hg_ : a_.eval (.tmp 50) = .bool false := hk_.got 12 50 _ (by kernel_rfl) rfl rfl
        have hy_ := hk_.want 12 _ 50 false rfl rfl hg_
        have hx_ := hk_.ext
        clear hk_
        refine flow_want rfl hy_ ?_
        exact gives_move rfl ⟨Below.refl _ _, h16⟩
      refine allFrom_cons ?_ ?_
      · intro a_ w_ hk_
        have h51 : a_.eval (.tmp 51) = (.int .i64 E) := hk_.got 13 51 _ (by kernel_rfl) rfl rfl
        have hg_ : a_.eval (.tmp 50) = .bool false := hk_.got 12 50 _ (by kernel_rfl) rfl rfl
        have hy_ := hk_.want 12 _ 50 false rfl rfl hg_
        have hx_ := hk_.ext
        clear hk_
        refine flow_want rfl hy_ ?_
        unfold gives
        have hc_ : ∀ v, a_.eval (.const v) = v := fun _ => rfl
        have hn_ : ∀ f, a_.eval (.func f) = .func (.func f) #[] #[] := fun _ => rfl
        clear hy_ hg_
        generalize a_.eval = ρ_ at *
        go_simp
        exact ⟨Below.refl _ _, rfl⟩
      refine allFrom_cons ?_ ?_
      · intro a_ w_ hk_
        have h50 : a_.eval (.tmp 50) = (.bool false) := hk_.got 12 50 _ (by kernel_rfl) rfl rfl
        have h52 : a_.eval (.tmp 52) = (.bool true) := hk_.got 14 52 _ (by kernel_rfl) rfl rfl
        have hx_ := hk_.ext
        clear hk_
        refine flow_plain rfl ?_
        exact gives_pick rfl h50 ⟨Below.refl _ _, h52⟩
      refine allFrom_cons ?_ ?_
      · intro a_ w_ hk_
        have h53 : a_.eval (.tmp 53) = (.bool true) := hk_.got 15 53 _ (by kernel_rfl) rfl rfl
        have hx_ := hk_.ext
        clear hk_
        refine flow_plain rfl ?_
        exact gives_move rfl ⟨Below.refl _ _, h53⟩
      refine allFrom_cons ?_ ?_
      · intro a_ w_ hk_
        have h19 : a_.eval (.tmp 19) = .int .i64 F := hk_.old 19 (by kernel_rfl)
        have hg_ : a_.eval (.tmp 54) = .bool true := hk_.got 16 54 _ (by kernel_rfl) rfl rfl
        have hy_ := hk_.want 16 _ 54 true rfl rfl hg_
        have hx_ := hk_.ext
        clear hk_
        exact flow_skip rfl hy_ (by decide) trivial
      refine allFrom_cons ?_ ?_
      · intro a_ w_ hk_
        have hg_ : a_.eval (.tmp 54) = .bool true := hk_.got 16 54 _ (by kernel_rfl) rfl rfl
        have hy_ := hk_.want 16 _ 54 true rfl rfl hg_
        have hx_ := hk_.ext
        clear hk_
        exact flow_skip rfl hy_ (by decide) trivial
      refine allFrom_cons ?_ ?_
      · intro a_ w_ hk_
        have h54 : a_.eval (.tmp 54) = (.bool true) := hk_.got 16 54 _ (by kernel_rfl) rfl rfl
        have hx_ := hk_.ext
        clear hk_
        refine flow_plain rfl ?_
        exact gives_pick rfl h54 ⟨Below.refl _ _, rfl⟩
      refine allFrom_cons ?_ ?_
      · intro a_ w_ hk_
        have h57 : a_.eval (.tmp 57) = (.bool true) := hk_.got 19 57 _ (by kernel_rfl) rfl rfl
        have hx_ := hk_.ext
        clear hk_
        refine flow_plain rfl ?_
        exact gives_move rfl ⟨Below.refl _ _, h57⟩
      refine allFrom_cons ?_ ?_
      · intro a_ w_ hk_
        have h15 : a_.eval (.tmp 15) = .pointer (some ⟨g15, 0, none⟩) := hk_.old 15 (by kernel_rfl)
        have hg_ : a_.eval (.tmp 58) = .bool true := hk_.got 20 58 _ (by kernel_rfl) rfl rfl
        have hy_ := hk_.want 20 _ 58 true rfl rfl hg_
        have hx_ := hk_.ext
        clear hk_
        exact flow_skip rfl hy_ (by decide) trivial
      refine allFrom_cons ?_ ?_
      · intro a_ w_ hk_
        have hg_ : a_.eval (.tmp 58) = .bool true := hk_.got 20 58 _ (by kernel_rfl) rfl rfl
        have hy_ := hk_.want 20 _ 58 true rfl rfl hg_
        have hx_ := hk_.ext
        clear hk_
        exact flow_skip rfl hy_ (by decide) trivial
      refine allFrom_cons ?_ ?_
      · intro a_ w_ hk_
        have h7 : a_.eval (.tmp 7) = .pointer (some ⟨w.heap.size, 0, none⟩) := hk_.old 7 (by kernel_rfl)
        have hg_ : a_.eval (.tmp 58) = .bool true := hk_.got 20 58 _ (by kernel_rfl) rfl rfl
        have hy_ := hk_.want 20 _ 58 true rfl rfl hg_
        have hx_ := hk_.ext
        clear hk_
        exact flow_skip rfl hy_ (by decide) trivial
      refine allFrom_cons ?_ ?_
      · intro a_ w_ hk_
        have hg_ : a_.eval (.tmp 58) = .bool true := hk_.got 20 58 _ (by kernel_rfl) rfl rfl
        have hy_ := hk_.want 20 _ 58 true rfl rfl hg_
        have hx_ := hk_.ext
        clear hk_
        exact flow_skip rfl hy_ (by decide) trivial
      refine allFrom_cons ?_ ?_
      · intro a_ w_ hk_
        have hg_ : a_.eval (.tmp 58) = .bool true := hk_.got 20 58 _ (by kernel_rfl) rfl rfl
        have hy_ := hk_.want 20 _ 58 true rfl rfl hg_
        have hx_ := hk_.ext
        clear hk_
        exact flow_skip rfl hy_ (by decide) trivial
      refine allFrom_cons ?_ ?_
      · intro a_ w_ hk_
        have h58 : a_.eval (.tmp 58) = (.bool true) := hk_.got 20 58 _ (by kernel_rfl) rfl rfl
        have hx_ := hk_.ext
        clear hk_
        refine flow_plain rfl ?_
        exact gives_pick rfl h58 ⟨Below.refl _ _, rfl⟩
      refine allFrom_cons ?_ ?_
      · intro a_ w_ hk_
        have h64 : a_.eval (.tmp 64) = (.bool true) := hk_.got 26 64 _ (by kernel_rfl) rfl rfl
        have hx_ := hk_.ext
        clear hk_
        refine flow_plain rfl ?_
        exact gives_move rfl ⟨Below.refl _ _, h64⟩
      refine allFrom_cons ?_ ?_
      · intro a_ w_ hk_
        have h18 : a_.eval (.tmp 18) = .pointer (some ⟨g18, 0, none⟩) := hk_.old 18 (by kernel_rfl)
        have hg_ : a_.eval (.tmp 65) = .bool true := hk_.got 27 65 _ (by kernel_rfl) rfl rfl
        have hy_ := hk_.want 27 _ 65 true rfl rfl hg_
        have hx_ := hk_.ext
        clear hk_
        exact flow_skip rfl hy_ (by decide) trivial
      refine allFrom_cons ?_ ?_
      · intro a_ w_ hk_
        have hg_ : a_.eval (.tmp 65) = .bool true := hk_.got 27 65 _ (by kernel_rfl) rfl rfl
        have hy_ := hk_.want 27 _ 65 true rfl rfl hg_
        have hx_ := hk_.ext
        clear hk_
        exact flow_skip rfl hy_ (by decide) trivial
      refine allFrom_cons ?_ ?_
      · intro a_ w_ hk_
        have h8 : a_.eval (.tmp 8) = .pointer (some ⟨w.heap.size + 1, 0, none⟩) := hk_.old 8 (by kernel_rfl)
        have hg_ : a_.eval (.tmp 65) = .bool true := hk_.got 27 65 _ (by kernel_rfl) rfl rfl
        have hy_ := hk_.want 27 _ 65 true rfl rfl hg_
        have hx_ := hk_.ext
        clear hk_
        exact flow_skip rfl hy_ (by decide) trivial
      refine allFrom_cons ?_ ?_
      · intro a_ w_ hk_
        have hg_ : a_.eval (.tmp 65) = .bool true := hk_.got 27 65 _ (by kernel_rfl) rfl rfl
        have hy_ := hk_.want 27 _ 65 true rfl rfl hg_
        have hx_ := hk_.ext
        clear hk_
        exact flow_skip rfl hy_ (by decide) trivial
      refine allFrom_cons ?_ ?_
      · intro a_ w_ hk_
        have hg_ : a_.eval (.tmp 65) = .bool true := hk_.got 27 65 _ (by kernel_rfl) rfl rfl
        have hy_ := hk_.want 27 _ 65 true rfl rfl hg_
        have hx_ := hk_.ext
        clear hk_
        exact flow_skip rfl hy_ (by decide) trivial
      refine allFrom_cons ?_ ?_
      · intro a_ w_ hk_
        have h65 : a_.eval (.tmp 65) = (.bool true) := hk_.got 27 65 _ (by kernel_rfl) rfl rfl
        have hx_ := hk_.ext
        clear hk_
        refine flow_plain rfl ?_
        exact gives_pick rfl h65 ⟨Below.refl _ _, rfl⟩
      refine allFrom_cons ?_ ?_
      · intro a_ w_ hk_
        have h71 : a_.eval (.tmp 71) = (.bool true) := hk_.got 33 71 _ (by kernel_rfl) rfl rfl
        have hx_ := hk_.ext
        clear hk_
        refine flow_plain rfl ?_
        exact gives_move rfl ⟨Below.refl _ _, h71⟩
      refine allFrom_cons ?_ ?_
      · intro a_ w_ hk_
        have h15 : a_.eval (.tmp 15) = .pointer (some ⟨g15, 0, none⟩) := hk_.old 15 (by kernel_rfl)
        have hg_ : a_.eval (.tmp 72) = .bool true := hk_.got 34 72 _ (by kernel_rfl) rfl rfl
        have hy_ := hk_.want 34 _ 72 true rfl rfl hg_
        have hx_ := hk_.ext
        clear hk_
        exact flow_skip rfl hy_ (by decide) trivial
      refine allFrom_cons ?_ ?_
      · intro a_ w_ hk_
        have hg_ : a_.eval (.tmp 72) = .bool true := hk_.got 34 72 _ (by kernel_rfl) rfl rfl
        have hy_ := hk_.want 34 _ 72 true rfl rfl hg_
        have hx_ := hk_.ext
        clear hk_
        exact flow_skip rfl hy_ (by decide) trivial
      refine allFrom_cons ?_ ?_
      · intro a_ w_ hk_
        have h18 : a_.eval (.tmp 18) = .pointer (some ⟨g18, 0, none⟩) := hk_.old 18 (by kernel_rfl)
        have hg_ : a_.eval (.tmp 72) = .bool true := hk_.got 34 72 _ (by kernel_rfl) rfl rfl
        have hy_ := hk_.want 34 _ 72 true rfl rfl hg_
        have hx_ := hk_.ext
        clear hk_
        exact flow_skip rfl hy_ (by decide) trivial
      refine allFrom_cons ?_ ?_
      · intro a_ w_ hk_
        have hg_ : a_.eval (.tmp 72) = .bool true := hk_.got 34 72 _ (by kernel_rfl) rfl rfl
        have hy_ := hk_.want 34 _ 72 true rfl rfl hg_
        have hx_ := hk_.ext
        clear hk_
        exact flow_skip rfl hy_ (by decide) trivial
      refine allFrom_cons ?_ ?_
      · intro a_ w_ hk_
        have hg_ : a_.eval (.tmp 72) = .bool true := hk_.got 34 72 _ (by kernel_rfl) rfl rfl
        have hy_ := hk_.want 34 _ 72 true rfl rfl hg_
        have hx_ := hk_.ext
        clear hk_
        exact flow_skip rfl hy_ (by decide) trivial
      refine allFrom_cons ?_ ?_
      · intro a_ w_ hk_
        have h72 : a_.eval (.tmp 72) = (.bool true) := hk_.got 34 72 _ (by kernel_rfl) rfl rfl
        have hx_ := hk_.ext
        clear hk_
        refine flow_plain rfl ?_
        exact gives_pick rfl h72 ⟨Below.refl _ _, rfl⟩
      exact allFrom_nil
    intro f_ w_ hx_ hf_
    have h38 : f_ 38 = (.pointer (some ⟨w.heap.size, 0, none⟩)) := hf_ 0 38 _ (by decide) rfl rfl
    have h39 : f_ 39 = (.int .u64 (m : Int)) := hf_ 1 39 _ (by decide) rfl rfl
    have h40 : f_ 40 = (.pointer (some ⟨w.heap.size + 1, 0, none⟩)) := hf_ 2 40 _ (by decide) rfl rfl
    have h41 : f_ 41 = (.int .u64 (m : Int)) := hf_ 3 41 _ (by decide) rfl rfl
    have h42 : f_ 42 = (.bool false) := hf_ 4 42 _ (by decide) rfl rfl
    have h43 : f_ 43 = (.bool false) := hf_ 5 43 _ (by decide) rfl rfl
    have h44 : f_ 44 = (.pointer (some ⟨w.heap.size, 1, none⟩)) := hf_ 6 44 _ (by decide) rfl rfl
    have h45 : f_ 45 = (.agg (a.map cb).toArray) := hf_ 7 45 _ (by decide) rfl rfl
    have h46 : f_ 46 = (.pointer (some ⟨w.heap.size + 1, 1, none⟩)) := hf_ 8 46 _ (by decide) rfl rfl
    have h47 : f_ 47 = (.agg (b.map cb).toArray) := hf_ 9 47 _ (by decide) rfl rfl
    have h48 : f_ 48 = (.bool false) := hf_ 10 48 _ (by decide) rfl rfl
    have h49 : f_ 49 = (.bool false) := hf_ 11 49 _ (by decide) rfl rfl
    have h50 : f_ 50 = (.bool false) := hf_ 12 50 _ (by decide) rfl rfl
    have h51 : f_ 51 = (.int .i64 E) := hf_ 13 51 _ (by decide) rfl rfl
    have h52 : f_ 52 = (.bool true) := hf_ 14 52 _ (by decide) rfl rfl
    have h53 : f_ 53 = (.bool true) := hf_ 15 53 _ (by decide) rfl rfl
    have h54 : f_ 54 = (.bool true) := hf_ 16 54 _ (by decide) rfl rfl
    have h57 : f_ 57 = (.bool true) := hf_ 19 57 _ (by decide) rfl rfl
    have h58 : f_ 58 = (.bool true) := hf_ 20 58 _ (by decide) rfl rfl
    have h64 : f_ 64 = (.bool true) := hf_ 26 64 _ (by decide) rfl rfl
    have h65 : f_ 65 = (.bool true) := hf_ 27 65 _ (by decide) rfl rfl
    have h71 : f_ 71 = (.bool true) := hf_ 33 71 _ (by decide) rfl rfl
    have h72 : f_ 72 = (.bool true) := hf_ 34 72 _ (by decide) rfl rfl
    have h78 : f_ 78 = (.bool true) := hf_ 40 78 _ (by decide) rfl rfl
    simp only [mix, h38, h39, h40, h41, h42, h43, h44, h45, h46, h47, h48, h49, h50, h51, h52, h53, h54, h57, h58, h64, h65, h71, h72, h78]
    clear h38 h39 h40 h41 h42 h43 h44 h45 h46 h47 h48 h49 h50 h51 h52 h53 h54 h57 h58 h64 h65 h71 h72 h78
    clear hf_
    have hzf := hz8.below hx_ hz8.lt
    have hbf := bx_trans hb08 hx_
    clear hx_
    go_wp2_with (first
      | ((with_reducible refine wpAtC ?_); refine wpList_gives rfl (gives_build (S := fun v w' => v = .agg #[nilC, nilC] ∧ w' = _) tCl #[] rfl [] (by simp) bltClN ⟨rfl, rfl⟩) ?_; rintro v12 w12 ⟨rfl, rfl⟩; simp only [Act.put, List.setIfInBounds_toArray, List.set_cons_succ, List.set_cons_zero])
      | ((with_reducible refine wpAtC ?_); refine wpList_store_agg rfl _ _ _ rfl _ _ rfl #[nilC, nilC] rfl (aggCl _ _) hzf (Nat.le_refl _) (by intro v hv; simp at hv; rcases hv with rfl | rfl <;> rfl) ?_; intro w13 hp13; simp only [Act.put]))
    exact bodyPost_ret (results_h2 (cs := [nilC, nilC]) rfl rfl (aggCl _ _) (blk_cells hp13.blk)) rfl ⟨bx_put hbf hp13 hg12w, .inl ⟨.inl (by rw [HG.out]; rintro ⟨k1, k2, k3, k4, k5, k6⟩; exact H2'.out k2), rfl⟩⟩
  subst h2
  by_cases h3 : F = 0
  rotate_left
  · have H3' := hid h3
    have hF2 : (F != 0) = true := by simpa using h3
    clear heq2 heq3 heq4
    refine wp_region_lit ?_
    refine wp_flowSE [0, 1, 3, 7, 15, 31, 63, 127, 255, 511, 1023, 2047, 4095, 8191, 16383, 32767, 65535, 131071, 262143, 524287, 1048575, 2097151, 4194303, 8388607, 16777215, 33554431, 67108863, 134217727, 268435455, 536870911, 1073741823, 2147483647, 4294967295, 8589934591, 17179869183, 34359738367, 68719476735, 137438953471, 274877906943, 549755813887, 1099511627775] 41 [false, false, false, false, false, false, false, false, false, false, false, false, false, false, false, false, false, false, false, false, false, false, false, false, false, false, false, false, false, false, false, false, false, false, false, false, false, false, true, true, true, true, true, true, true, true, true, true, true, true, true, true, true, true, true, true, true, true, true, true, true, true, true, true, true, true, true, true, true, true, true, true, true, true, true, true, true, true, true] (by kernel_rfl) (by kernel_rfl) (by kernel_rfl) [FP.eq (.pointer (some ⟨w.heap.size, 0, none⟩)), FP.eq (.int .u64 (m : Int)), FP.eq (.pointer (some ⟨w.heap.size + 1, 0, none⟩)), FP.eq (.int .u64 (m : Int)), FP.eq (.bool false), FP.eq (.bool false), FP.eq (.pointer (some ⟨w.heap.size, 1, none⟩)), FP.eq (.agg (a.map cb).toArray), FP.eq (.pointer (some ⟨w.heap.size + 1, 1, none⟩)), FP.eq (.agg (b.map cb).toArray), FP.eq (.bool false), FP.eq (.bool false), FP.eq (.bool false), FP.eq (.int .i64 0), FP.eq (.bool false), FP.eq (.bool false), FP.eq (.bool false), FP.eq (.int .i64 F), FP.eq (.bool true), FP.eq (.bool true), FP.eq (.bool true), FP.any, FP.any, FP.any, FP.any, FP.any, FP.eq (.bool true), FP.eq (.bool true), FP.any, FP.any, FP.any, FP.any, FP.any, FP.eq (.bool true), FP.eq (.bool true), FP.any, FP.any, FP.any, FP.any, FP.any, FP.eq (.bool true)] ?_ ?_
    · refine allFrom_cons ?_ ?_
      · intro a_ w_ hk_
        have h7 : a_.eval (.tmp 7) = .pointer (some ⟨w.heap.size, 0, none⟩) := hk_.old 7 (by kernel_rfl)
        have hx_ := hk_.ext
        clear hk_
        refine flow_plain rfl ?_
        unfold gives
        have hc_ : ∀ v, a_.eval (.const v) = v := fun _ => rfl
        have hn_ : ∀ f, a_.eval (.func f) = .func (.func f) #[] #[] := fun _ => rfl
        generalize a_.eval = ρ_ at *
        go_simp
        exact ⟨Below.refl _ _, rfl⟩
      refine allFrom_cons ?_ ?_
      · intro a_ w_ hk_
        have h38 : a_.eval (.tmp 38) = (.pointer (some ⟨w.heap.size, 0, none⟩)) := hk_.got 0 38 _ (by kernel_rfl) rfl rfl
        have hx_ := hk_.ext
        clear hk_
        refine flow_plain rfl ?_
        unfold gives
        have hc_ : ∀ v, a_.eval (.const v) = v := fun _ => rfl
        have hn_ : ∀ f, a_.eval (.func f) = .func (.func f) #[] #[] := fun _ => rfl
        have hcell := (hx_.cell (p := ⟨w.heap.size, 0, none⟩) hlA).trans csA
        generalize a_.eval = ρ_ at *
        go_simp
        exact ⟨Below.refl _ _, rfl⟩
      refine allFrom_cons ?_ ?_
      · intro a_ w_ hk_
        have h8 : a_.eval (.tmp 8) = .pointer (some ⟨w.heap.size + 1, 0, none⟩) := hk_.old 8 (by kernel_rfl)
        have hx_ := hk_.ext
        clear hk_
        refine flow_plain rfl ?_
        unfold gives
        have hc_ : ∀ v, a_.eval (.const v) = v := fun _ => rfl
        have hn_ : ∀ f, a_.eval (.func f) = .func (.func f) #[] #[] := fun _ => rfl
        generalize a_.eval = ρ_ at *
        go_simp
        exact ⟨Below.refl _ _, rfl⟩
      refine allFrom_cons ?_ ?_
      · intro a_ w_ hk_
        have h40 : a_.eval (.tmp 40) = (.pointer (some ⟨w.heap.size + 1, 0, none⟩)) := hk_.got 2 40 _ (by kernel_rfl) rfl rfl
        have hx_ := hk_.ext
        clear hk_
        refine flow_plain rfl ?_
        unfold gives
        have hc_ : ∀ v, a_.eval (.const v) = v := fun _ => rfl
        have hn_ : ∀ f, a_.eval (.func f) = .func (.func f) #[] #[] := fun _ => rfl
        have hcell := (hx_.cell (p := ⟨w.heap.size + 1, 0, none⟩) hlB).trans csB
        generalize a_.eval = ρ_ at *
        go_simp
        exact ⟨Below.refl _ _, rfl⟩
      refine allFrom_cons ?_ ?_
      · intro a_ w_ hk_
        have h39 : a_.eval (.tmp 39) = (.int .u64 (m : Int)) := hk_.got 1 39 _ (by kernel_rfl) rfl rfl
        have h41 : a_.eval (.tmp 41) = (.int .u64 (m : Int)) := hk_.got 3 41 _ (by kernel_rfl) rfl rfl
        have hx_ := hk_.ext
        clear hk_
        refine flow_plain rfl ?_
        unfold gives
        have hc_ : ∀ v, a_.eval (.const v) = v := fun _ => rfl
        have hn_ : ∀ f, a_.eval (.func f) = .func (.func f) #[] #[] := fun _ => rfl
        generalize a_.eval = ρ_ at *
        go_simp
        exact ⟨Below.refl _ _, rfl⟩
      refine allFrom_cons ?_ ?_
      · intro a_ w_ hk_
        have h42 : a_.eval (.tmp 42) = (.bool false) := hk_.got 4 42 _ (by kernel_rfl) rfl rfl
        have hx_ := hk_.ext
        clear hk_
        refine flow_plain rfl ?_
        exact gives_move rfl ⟨Below.refl _ _, h42⟩
      refine allFrom_cons ?_ ?_
      · intro a_ w_ hk_
        have h7 : a_.eval (.tmp 7) = .pointer (some ⟨w.heap.size, 0, none⟩) := hk_.old 7 (by kernel_rfl)
        have hg_ : a_.eval (.tmp 43) = .bool false := hk_.got 5 43 _ (by kernel_rfl) rfl rfl
        have hy_ := hk_.want 5 _ 43 false rfl rfl hg_
        have hx_ := hk_.ext
        clear hk_
        refine flow_want rfl hy_ ?_
        unfold gives
        have hc_ : ∀ v, a_.eval (.const v) = v := fun _ => rfl
        have hn_ : ∀ f, a_.eval (.func f) = .func (.func f) #[] #[] := fun _ => rfl
        clear hy_ hg_
        generalize a_.eval = ρ_ at *
        go_simp
        exact ⟨Below.refl _ _, rfl⟩
      refine allFrom_cons ?_ ?_
      · intro a_ w_ hk_
        have h44 : a_.eval (.tmp 44) = (.pointer (some ⟨w.heap.size, 1, none⟩)) := hk_.got 6 44 _ (by kernel_rfl) rfl rfl
        have hg_ : a_.eval (.tmp 43) = .bool false := hk_.got 5 43 _ (by kernel_rfl) rfl rfl
        have hy_ := hk_.want 5 _ 43 false rfl rfl hg_
        have hx_ := hk_.ext
        clear hk_
        refine flow_want rfl hy_ ?_
        exact gives_ldC rfl h44 (aggHL ha) (fun j v hv => (hx_.cell (p := ⟨_, _, none⟩) hlA).trans (ca j v hv)) ⟨Below.refl _ _, rfl⟩
      refine allFrom_cons ?_ ?_
      · intro a_ w_ hk_
        have h8 : a_.eval (.tmp 8) = .pointer (some ⟨w.heap.size + 1, 0, none⟩) := hk_.old 8 (by kernel_rfl)
        have hg_ : a_.eval (.tmp 43) = .bool false := hk_.got 5 43 _ (by kernel_rfl) rfl rfl
        have hy_ := hk_.want 5 _ 43 false rfl rfl hg_
        have hx_ := hk_.ext
        clear hk_
        refine flow_want rfl hy_ ?_
        unfold gives
        have hc_ : ∀ v, a_.eval (.const v) = v := fun _ => rfl
        have hn_ : ∀ f, a_.eval (.func f) = .func (.func f) #[] #[] := fun _ => rfl
        clear hy_ hg_
        generalize a_.eval = ρ_ at *
        go_simp
        exact ⟨Below.refl _ _, rfl⟩
      refine allFrom_cons ?_ ?_
      · intro a_ w_ hk_
        have h46 : a_.eval (.tmp 46) = (.pointer (some ⟨w.heap.size + 1, 1, none⟩)) := hk_.got 8 46 _ (by kernel_rfl) rfl rfl
        have hg_ : a_.eval (.tmp 43) = .bool false := hk_.got 5 43 _ (by kernel_rfl) rfl rfl
        have hy_ := hk_.want 5 _ 43 false rfl rfl hg_
        have hx_ := hk_.ext
        clear hk_
        refine flow_want rfl hy_ ?_
        exact gives_ldC rfl h46 (aggHL hb) (fun j v hv => (hx_.cell (p := ⟨_, _, none⟩) hlB).trans (cbb j v hv)) ⟨Below.refl _ _, rfl⟩
      refine allFrom_cons ?_ ?_
      · intro a_ w_ hk_
        have h45 : a_.eval (.tmp 45) = (.agg (a.map cb).toArray) := hk_.got 7 45 _ (by kernel_rfl) rfl rfl
        have h47 : a_.eval (.tmp 47) = (.agg (b.map cb).toArray) := hk_.got 9 47 _ (by kernel_rfl) rfl rfl
        have hg_ : a_.eval (.tmp 43) = .bool false := hk_.got 5 43 _ (by kernel_rfl) rfl rfl
        have hy_ := hk_.want 5 _ 43 false rfl rfl hg_
        have hx_ := hk_.ext
        clear hk_
        refine flow_want rfl hy_ ?_
        unfold gives
        have hc_ : ∀ v, a_.eval (.const v) = v := fun _ => rfl
        have hn_ : ∀ f, a_.eval (.func f) = .func (.func f) #[] #[] := fun _ => rfl
        clear hy_ hg_
        generalize a_.eval = ρ_ at *
        go_simp
        exact ⟨Below.refl _ _, rfl⟩
      refine allFrom_cons ?_ ?_
      · intro a_ w_ hk_
        have h43 : a_.eval (.tmp 43) = (.bool false) := hk_.got 5 43 _ (by kernel_rfl) rfl rfl
        have h48 : a_.eval (.tmp 48) = (.bool false) := hk_.got 10 48 _ (by kernel_rfl) rfl rfl
        have hx_ := hk_.ext
        clear hk_
        refine flow_plain rfl ?_
        exact gives_pick rfl h43 ⟨Below.refl _ _, h48⟩
      refine allFrom_cons ?_ ?_
      · intro a_ w_ hk_
        have h49 : a_.eval (.tmp 49) = (.bool false) := hk_.got 11 49 _ (by kernel_rfl) rfl rfl
        have hx_ := hk_.ext
        clear hk_
        refine flow_plain rfl ?_
        exact gives_move rfl ⟨Below.refl _ _, h49⟩
      refine allFrom_cons ?_ ?_
      · intro a_ w_ hk_
        have h16 : a_.eval (.tmp 16) = .int .i64 0 := hk_.old 16 (by kernel_rfl)
        have hg_ : a_.eval (.tmp 50) = .bool false := hk_.got 12 50 _ (by kernel_rfl) rfl rfl
        have hy_ := hk_.want 12 _ 50 false rfl rfl hg_
        have hx_ := hk_.ext
        clear hk_
        refine flow_want rfl hy_ ?_
        exact gives_move rfl ⟨Below.refl _ _, h16⟩
      refine allFrom_cons ?_ ?_
      · intro a_ w_ hk_
        have h51 : a_.eval (.tmp 51) = (.int .i64 0) := hk_.got 13 51 _ (by kernel_rfl) rfl rfl
        have hg_ : a_.eval (.tmp 50) = .bool false := hk_.got 12 50 _ (by kernel_rfl) rfl rfl
        have hy_ := hk_.want 12 _ 50 false rfl rfl hg_
        have hx_ := hk_.ext
        clear hk_
        refine flow_want rfl hy_ ?_
        unfold gives
        have hc_ : ∀ v, a_.eval (.const v) = v := fun _ => rfl
        have hn_ : ∀ f, a_.eval (.func f) = .func (.func f) #[] #[] := fun _ => rfl
        clear hy_ hg_
        generalize a_.eval = ρ_ at *
        go_simp
        exact ⟨Below.refl _ _, rfl⟩
      refine allFrom_cons ?_ ?_
      · intro a_ w_ hk_
        have h50 : a_.eval (.tmp 50) = (.bool false) := hk_.got 12 50 _ (by kernel_rfl) rfl rfl
        have h52 : a_.eval (.tmp 52) = (.bool false) := hk_.got 14 52 _ (by kernel_rfl) rfl rfl
        have hx_ := hk_.ext
        clear hk_
        refine flow_plain rfl ?_
        exact gives_pick rfl h50 ⟨Below.refl _ _, h52⟩
      refine allFrom_cons ?_ ?_
      · intro a_ w_ hk_
        have h53 : a_.eval (.tmp 53) = (.bool false) := hk_.got 15 53 _ (by kernel_rfl) rfl rfl
        have hx_ := hk_.ext
        clear hk_
        refine flow_plain rfl ?_
        exact gives_move rfl ⟨Below.refl _ _, h53⟩
      refine allFrom_cons ?_ ?_
      · intro a_ w_ hk_
        have h19 : a_.eval (.tmp 19) = .int .i64 F := hk_.old 19 (by kernel_rfl)
        have hg_ : a_.eval (.tmp 54) = .bool false := hk_.got 16 54 _ (by kernel_rfl) rfl rfl
        have hy_ := hk_.want 16 _ 54 false rfl rfl hg_
        have hx_ := hk_.ext
        clear hk_
        refine flow_want rfl hy_ ?_
        exact gives_move rfl ⟨Below.refl _ _, h19⟩
      refine allFrom_cons ?_ ?_
      · intro a_ w_ hk_
        have h55 : a_.eval (.tmp 55) = (.int .i64 F) := hk_.got 17 55 _ (by kernel_rfl) rfl rfl
        have hg_ : a_.eval (.tmp 54) = .bool false := hk_.got 16 54 _ (by kernel_rfl) rfl rfl
        have hy_ := hk_.want 16 _ 54 false rfl rfl hg_
        have hx_ := hk_.ext
        clear hk_
        refine flow_want rfl hy_ ?_
        unfold gives
        have hc_ : ∀ v, a_.eval (.const v) = v := fun _ => rfl
        have hn_ : ∀ f, a_.eval (.func f) = .func (.func f) #[] #[] := fun _ => rfl
        clear hy_ hg_
        generalize a_.eval = ρ_ at *
        go_simp
        exact ⟨Below.refl _ _, rfl⟩
      refine allFrom_cons ?_ ?_
      · intro a_ w_ hk_
        have h54 : a_.eval (.tmp 54) = (.bool false) := hk_.got 16 54 _ (by kernel_rfl) rfl rfl
        have h56 : a_.eval (.tmp 56) = (.bool true) := hk_.got 18 56 _ (by kernel_rfl) rfl rfl
        have hx_ := hk_.ext
        clear hk_
        refine flow_plain rfl ?_
        exact gives_pick rfl h54 ⟨Below.refl _ _, h56⟩
      refine allFrom_cons ?_ ?_
      · intro a_ w_ hk_
        have h57 : a_.eval (.tmp 57) = (.bool true) := hk_.got 19 57 _ (by kernel_rfl) rfl rfl
        have hx_ := hk_.ext
        clear hk_
        refine flow_plain rfl ?_
        exact gives_move rfl ⟨Below.refl _ _, h57⟩
      refine allFrom_cons ?_ ?_
      · intro a_ w_ hk_
        have h15 : a_.eval (.tmp 15) = .pointer (some ⟨g15, 0, none⟩) := hk_.old 15 (by kernel_rfl)
        have hg_ : a_.eval (.tmp 58) = .bool true := hk_.got 20 58 _ (by kernel_rfl) rfl rfl
        have hy_ := hk_.want 20 _ 58 true rfl rfl hg_
        have hx_ := hk_.ext
        clear hk_
        exact flow_skip rfl hy_ (by decide) trivial
      refine allFrom_cons ?_ ?_
      · intro a_ w_ hk_
        have hg_ : a_.eval (.tmp 58) = .bool true := hk_.got 20 58 _ (by kernel_rfl) rfl rfl
        have hy_ := hk_.want 20 _ 58 true rfl rfl hg_
        have hx_ := hk_.ext
        clear hk_
        exact flow_skip rfl hy_ (by decide) trivial
      refine allFrom_cons ?_ ?_
      · intro a_ w_ hk_
        have h7 : a_.eval (.tmp 7) = .pointer (some ⟨w.heap.size, 0, none⟩) := hk_.old 7 (by kernel_rfl)
        have hg_ : a_.eval (.tmp 58) = .bool true := hk_.got 20 58 _ (by kernel_rfl) rfl rfl
        have hy_ := hk_.want 20 _ 58 true rfl rfl hg_
        have hx_ := hk_.ext
        clear hk_
        exact flow_skip rfl hy_ (by decide) trivial
      refine allFrom_cons ?_ ?_
      · intro a_ w_ hk_
        have hg_ : a_.eval (.tmp 58) = .bool true := hk_.got 20 58 _ (by kernel_rfl) rfl rfl
        have hy_ := hk_.want 20 _ 58 true rfl rfl hg_
        have hx_ := hk_.ext
        clear hk_
        exact flow_skip rfl hy_ (by decide) trivial
      refine allFrom_cons ?_ ?_
      · intro a_ w_ hk_
        have hg_ : a_.eval (.tmp 58) = .bool true := hk_.got 20 58 _ (by kernel_rfl) rfl rfl
        have hy_ := hk_.want 20 _ 58 true rfl rfl hg_
        have hx_ := hk_.ext
        clear hk_
        exact flow_skip rfl hy_ (by decide) trivial
      refine allFrom_cons ?_ ?_
      · intro a_ w_ hk_
        have h58 : a_.eval (.tmp 58) = (.bool true) := hk_.got 20 58 _ (by kernel_rfl) rfl rfl
        have hx_ := hk_.ext
        clear hk_
        refine flow_plain rfl ?_
        exact gives_pick rfl h58 ⟨Below.refl _ _, rfl⟩
      refine allFrom_cons ?_ ?_
      · intro a_ w_ hk_
        have h64 : a_.eval (.tmp 64) = (.bool true) := hk_.got 26 64 _ (by kernel_rfl) rfl rfl
        have hx_ := hk_.ext
        clear hk_
        refine flow_plain rfl ?_
        exact gives_move rfl ⟨Below.refl _ _, h64⟩
      refine allFrom_cons ?_ ?_
      · intro a_ w_ hk_
        have h18 : a_.eval (.tmp 18) = .pointer (some ⟨g18, 0, none⟩) := hk_.old 18 (by kernel_rfl)
        have hg_ : a_.eval (.tmp 65) = .bool true := hk_.got 27 65 _ (by kernel_rfl) rfl rfl
        have hy_ := hk_.want 27 _ 65 true rfl rfl hg_
        have hx_ := hk_.ext
        clear hk_
        exact flow_skip rfl hy_ (by decide) trivial
      refine allFrom_cons ?_ ?_
      · intro a_ w_ hk_
        have hg_ : a_.eval (.tmp 65) = .bool true := hk_.got 27 65 _ (by kernel_rfl) rfl rfl
        have hy_ := hk_.want 27 _ 65 true rfl rfl hg_
        have hx_ := hk_.ext
        clear hk_
        exact flow_skip rfl hy_ (by decide) trivial
      refine allFrom_cons ?_ ?_
      · intro a_ w_ hk_
        have h8 : a_.eval (.tmp 8) = .pointer (some ⟨w.heap.size + 1, 0, none⟩) := hk_.old 8 (by kernel_rfl)
        have hg_ : a_.eval (.tmp 65) = .bool true := hk_.got 27 65 _ (by kernel_rfl) rfl rfl
        have hy_ := hk_.want 27 _ 65 true rfl rfl hg_
        have hx_ := hk_.ext
        clear hk_
        exact flow_skip rfl hy_ (by decide) trivial
      refine allFrom_cons ?_ ?_
      · intro a_ w_ hk_
        have hg_ : a_.eval (.tmp 65) = .bool true := hk_.got 27 65 _ (by kernel_rfl) rfl rfl
        have hy_ := hk_.want 27 _ 65 true rfl rfl hg_
        have hx_ := hk_.ext
        clear hk_
        exact flow_skip rfl hy_ (by decide) trivial
      refine allFrom_cons ?_ ?_
      · intro a_ w_ hk_
        have hg_ : a_.eval (.tmp 65) = .bool true := hk_.got 27 65 _ (by kernel_rfl) rfl rfl
        have hy_ := hk_.want 27 _ 65 true rfl rfl hg_
        have hx_ := hk_.ext
        clear hk_
        exact flow_skip rfl hy_ (by decide) trivial
      refine allFrom_cons ?_ ?_
      · intro a_ w_ hk_
        have h65 : a_.eval (.tmp 65) = (.bool true) := hk_.got 27 65 _ (by kernel_rfl) rfl rfl
        have hx_ := hk_.ext
        clear hk_
        refine flow_plain rfl ?_
        exact gives_pick rfl h65 ⟨Below.refl _ _, rfl⟩
      refine allFrom_cons ?_ ?_
      · intro a_ w_ hk_
        have h71 : a_.eval (.tmp 71) = (.bool true) := hk_.got 33 71 _ (by kernel_rfl) rfl rfl
        have hx_ := hk_.ext
        clear hk_
        refine flow_plain rfl ?_
        exact gives_move rfl ⟨Below.refl _ _, h71⟩
      refine allFrom_cons ?_ ?_
      · intro a_ w_ hk_
        have h15 : a_.eval (.tmp 15) = .pointer (some ⟨g15, 0, none⟩) := hk_.old 15 (by kernel_rfl)
        have hg_ : a_.eval (.tmp 72) = .bool true := hk_.got 34 72 _ (by kernel_rfl) rfl rfl
        have hy_ := hk_.want 34 _ 72 true rfl rfl hg_
        have hx_ := hk_.ext
        clear hk_
        exact flow_skip rfl hy_ (by decide) trivial
      refine allFrom_cons ?_ ?_
      · intro a_ w_ hk_
        have hg_ : a_.eval (.tmp 72) = .bool true := hk_.got 34 72 _ (by kernel_rfl) rfl rfl
        have hy_ := hk_.want 34 _ 72 true rfl rfl hg_
        have hx_ := hk_.ext
        clear hk_
        exact flow_skip rfl hy_ (by decide) trivial
      refine allFrom_cons ?_ ?_
      · intro a_ w_ hk_
        have h18 : a_.eval (.tmp 18) = .pointer (some ⟨g18, 0, none⟩) := hk_.old 18 (by kernel_rfl)
        have hg_ : a_.eval (.tmp 72) = .bool true := hk_.got 34 72 _ (by kernel_rfl) rfl rfl
        have hy_ := hk_.want 34 _ 72 true rfl rfl hg_
        have hx_ := hk_.ext
        clear hk_
        exact flow_skip rfl hy_ (by decide) trivial
      refine allFrom_cons ?_ ?_
      · intro a_ w_ hk_
        have hg_ : a_.eval (.tmp 72) = .bool true := hk_.got 34 72 _ (by kernel_rfl) rfl rfl
        have hy_ := hk_.want 34 _ 72 true rfl rfl hg_
        have hx_ := hk_.ext
        clear hk_
        exact flow_skip rfl hy_ (by decide) trivial
      refine allFrom_cons ?_ ?_
      · intro a_ w_ hk_
        have hg_ : a_.eval (.tmp 72) = .bool true := hk_.got 34 72 _ (by kernel_rfl) rfl rfl
        have hy_ := hk_.want 34 _ 72 true rfl rfl hg_
        have hx_ := hk_.ext
        clear hk_
        exact flow_skip rfl hy_ (by decide) trivial
      refine allFrom_cons ?_ ?_
      · intro a_ w_ hk_
        have h72 : a_.eval (.tmp 72) = (.bool true) := hk_.got 34 72 _ (by kernel_rfl) rfl rfl
        have hx_ := hk_.ext
        clear hk_
        refine flow_plain rfl ?_
        exact gives_pick rfl h72 ⟨Below.refl _ _, rfl⟩
      exact allFrom_nil
    intro f_ w_ hx_ hf_
    have h38 : f_ 38 = (.pointer (some ⟨w.heap.size, 0, none⟩)) := hf_ 0 38 _ (by decide) rfl rfl
    have h39 : f_ 39 = (.int .u64 (m : Int)) := hf_ 1 39 _ (by decide) rfl rfl
    have h40 : f_ 40 = (.pointer (some ⟨w.heap.size + 1, 0, none⟩)) := hf_ 2 40 _ (by decide) rfl rfl
    have h41 : f_ 41 = (.int .u64 (m : Int)) := hf_ 3 41 _ (by decide) rfl rfl
    have h42 : f_ 42 = (.bool false) := hf_ 4 42 _ (by decide) rfl rfl
    have h43 : f_ 43 = (.bool false) := hf_ 5 43 _ (by decide) rfl rfl
    have h44 : f_ 44 = (.pointer (some ⟨w.heap.size, 1, none⟩)) := hf_ 6 44 _ (by decide) rfl rfl
    have h45 : f_ 45 = (.agg (a.map cb).toArray) := hf_ 7 45 _ (by decide) rfl rfl
    have h46 : f_ 46 = (.pointer (some ⟨w.heap.size + 1, 1, none⟩)) := hf_ 8 46 _ (by decide) rfl rfl
    have h47 : f_ 47 = (.agg (b.map cb).toArray) := hf_ 9 47 _ (by decide) rfl rfl
    have h48 : f_ 48 = (.bool false) := hf_ 10 48 _ (by decide) rfl rfl
    have h49 : f_ 49 = (.bool false) := hf_ 11 49 _ (by decide) rfl rfl
    have h50 : f_ 50 = (.bool false) := hf_ 12 50 _ (by decide) rfl rfl
    have h51 : f_ 51 = (.int .i64 0) := hf_ 13 51 _ (by decide) rfl rfl
    have h52 : f_ 52 = (.bool false) := hf_ 14 52 _ (by decide) rfl rfl
    have h53 : f_ 53 = (.bool false) := hf_ 15 53 _ (by decide) rfl rfl
    have h54 : f_ 54 = (.bool false) := hf_ 16 54 _ (by decide) rfl rfl
    have h55 : f_ 55 = (.int .i64 F) := hf_ 17 55 _ (by decide) rfl rfl
    have h56 : f_ 56 = (.bool true) := hf_ 18 56 _ (by decide) rfl rfl
    have h57 : f_ 57 = (.bool true) := hf_ 19 57 _ (by decide) rfl rfl
    have h58 : f_ 58 = (.bool true) := hf_ 20 58 _ (by decide) rfl rfl
    have h64 : f_ 64 = (.bool true) := hf_ 26 64 _ (by decide) rfl rfl
    have h65 : f_ 65 = (.bool true) := hf_ 27 65 _ (by decide) rfl rfl
    have h71 : f_ 71 = (.bool true) := hf_ 33 71 _ (by decide) rfl rfl
    have h72 : f_ 72 = (.bool true) := hf_ 34 72 _ (by decide) rfl rfl
    have h78 : f_ 78 = (.bool true) := hf_ 40 78 _ (by decide) rfl rfl
    simp only [mix, h38, h39, h40, h41, h42, h43, h44, h45, h46, h47, h48, h49, h50, h51, h52, h53, h54, h55, h56, h57, h58, h64, h65, h71, h72, h78]
    clear h38 h39 h40 h41 h42 h43 h44 h45 h46 h47 h48 h49 h50 h51 h52 h53 h54 h55 h56 h57 h58 h64 h65 h71 h72 h78
    clear hf_
    have hzf := hz8.below hx_ hz8.lt
    have hbf := bx_trans hb08 hx_
    clear hx_
    go_wp2_with (first
      | ((with_reducible refine wpAtC ?_); refine wpList_gives rfl (gives_build (S := fun v w' => v = .agg #[nilC, nilC] ∧ w' = _) tCl #[] rfl [] (by simp) bltClN ⟨rfl, rfl⟩) ?_; rintro v12 w12 ⟨rfl, rfl⟩; simp only [Act.put, List.setIfInBounds_toArray, List.set_cons_succ, List.set_cons_zero])
      | ((with_reducible refine wpAtC ?_); refine wpList_store_agg rfl _ _ _ rfl _ _ rfl #[nilC, nilC] rfl (aggCl _ _) hzf (Nat.le_refl _) (by intro v hv; simp at hv; rcases hv with rfl | rfl <;> rfl) ?_; intro w13 hp13; simp only [Act.put]))
    exact bodyPost_ret (results_h2 (cs := [nilC, nilC]) rfl rfl (aggCl _ _) (blk_cells hp13.blk)) rfl ⟨bx_put hbf hp13 hg12w, .inl ⟨.inl (by rw [HG.out]; rintro ⟨k1, k2, k3, k4, k5, k6⟩; exact H3'.out k3), rfl⟩⟩
  subst h3
  by_cases h4 : X1 = a
  rotate_left
  · have H4' := hid h4
    rw [show (X1 == a) = false by simpa using h4] at heq2
    clear heq3 heq4 h4
    refine wp_region_lit ?_
    refine wp_flowSE [0, 1, 3, 7, 15, 31, 63, 127, 255, 511, 1023, 2047, 4095, 8191, 16383, 32767, 65535, 131071, 262143, 524287, 1048575, 2097151, 4194303, 8388607, 16777215, 33554431, 67108863, 134217727, 268435455, 536870911, 1073741823, 2147483647, 4294967295, 8589934591, 17179869183, 34359738367, 68719476735, 137438953471, 274877906943, 549755813887, 1099511627775] 41 [false, false, false, false, false, false, false, false, false, false, false, false, false, false, false, false, false, false, false, false, false, false, false, false, false, false, false, false, false, false, false, false, false, false, false, false, false, false, true, true, true, true, true, true, true, true, true, true, true, true, true, true, true, true, true, true, true, true, true, true, true, true, true, true, true, true, true, true, true, true, true, true, true, true, true, true, true, true, true] (by kernel_rfl) (by kernel_rfl) (by kernel_rfl) [FP.eq (.pointer (some ⟨w.heap.size, 0, none⟩)), FP.eq (.int .u64 (m : Int)), FP.eq (.pointer (some ⟨w.heap.size + 1, 0, none⟩)), FP.eq (.int .u64 (m : Int)), FP.eq (.bool false), FP.eq (.bool false), FP.eq (.pointer (some ⟨w.heap.size, 1, none⟩)), FP.eq (.agg (a.map cb).toArray), FP.eq (.pointer (some ⟨w.heap.size + 1, 1, none⟩)), FP.eq (.agg (b.map cb).toArray), FP.eq (.bool false), FP.eq (.bool false), FP.eq (.bool false), FP.eq (.int .i64 0), FP.eq (.bool false), FP.eq (.bool false), FP.eq (.bool false), FP.eq (.int .i64 0), FP.eq (.bool false), FP.eq (.bool false), FP.eq (.bool false), FP.eq (.pointer (some ⟨g15, 0, none⟩)), FP.eq (.agg (X1.map cb).toArray), FP.eq (.pointer (some ⟨w.heap.size, 1, none⟩)), FP.eq (.agg (a.map cb).toArray), FP.eq (.bool true), FP.eq (.bool true), FP.eq (.bool true), FP.any, FP.any, FP.any, FP.any, FP.any, FP.eq (.bool true), FP.eq (.bool true), FP.any, FP.any, FP.any, FP.any, FP.any, FP.eq (.bool true)] ?_ ?_
    · refine allFrom_cons ?_ ?_
      · intro a_ w_ hk_
        have h7 : a_.eval (.tmp 7) = .pointer (some ⟨w.heap.size, 0, none⟩) := hk_.old 7 (by kernel_rfl)
        have hx_ := hk_.ext
        clear hk_
        refine flow_plain rfl ?_
        unfold gives
        have hc_ : ∀ v, a_.eval (.const v) = v := fun _ => rfl
        have hn_ : ∀ f, a_.eval (.func f) = .func (.func f) #[] #[] := fun _ => rfl
        generalize a_.eval = ρ_ at *
        go_simp
        exact ⟨Below.refl _ _, rfl⟩
      refine allFrom_cons ?_ ?_
      · intro a_ w_ hk_
        have h38 : a_.eval (.tmp 38) = (.pointer (some ⟨w.heap.size, 0, none⟩)) := hk_.got 0 38 _ (by kernel_rfl) rfl rfl
        have hx_ := hk_.ext
        clear hk_
        refine flow_plain rfl ?_
        unfold gives
        have hc_ : ∀ v, a_.eval (.const v) = v := fun _ => rfl
        have hn_ : ∀ f, a_.eval (.func f) = .func (.func f) #[] #[] := fun _ => rfl
        have hcell := (hx_.cell (p := ⟨w.heap.size, 0, none⟩) hlA).trans csA
        generalize a_.eval = ρ_ at *
        go_simp
        exact ⟨Below.refl _ _, rfl⟩
      refine allFrom_cons ?_ ?_
      · intro a_ w_ hk_
        have h8 : a_.eval (.tmp 8) = .pointer (some ⟨w.heap.size + 1, 0, none⟩) := hk_.old 8 (by kernel_rfl)
        have hx_ := hk_.ext
        clear hk_
        refine flow_plain rfl ?_
        unfold gives
        have hc_ : ∀ v, a_.eval (.const v) = v := fun _ => rfl
        have hn_ : ∀ f, a_.eval (.func f) = .func (.func f) #[] #[] := fun _ => rfl
        generalize a_.eval = ρ_ at *
        go_simp
        exact ⟨Below.refl _ _, rfl⟩
      refine allFrom_cons ?_ ?_
      · intro a_ w_ hk_
        have h40 : a_.eval (.tmp 40) = (.pointer (some ⟨w.heap.size + 1, 0, none⟩)) := hk_.got 2 40 _ (by kernel_rfl) rfl rfl
        have hx_ := hk_.ext
        clear hk_
        refine flow_plain rfl ?_
        unfold gives
        have hc_ : ∀ v, a_.eval (.const v) = v := fun _ => rfl
        have hn_ : ∀ f, a_.eval (.func f) = .func (.func f) #[] #[] := fun _ => rfl
        have hcell := (hx_.cell (p := ⟨w.heap.size + 1, 0, none⟩) hlB).trans csB
        generalize a_.eval = ρ_ at *
        go_simp
        exact ⟨Below.refl _ _, rfl⟩
      refine allFrom_cons ?_ ?_
      · intro a_ w_ hk_
        have h39 : a_.eval (.tmp 39) = (.int .u64 (m : Int)) := hk_.got 1 39 _ (by kernel_rfl) rfl rfl
        have h41 : a_.eval (.tmp 41) = (.int .u64 (m : Int)) := hk_.got 3 41 _ (by kernel_rfl) rfl rfl
        have hx_ := hk_.ext
        clear hk_
        refine flow_plain rfl ?_
        unfold gives
        have hc_ : ∀ v, a_.eval (.const v) = v := fun _ => rfl
        have hn_ : ∀ f, a_.eval (.func f) = .func (.func f) #[] #[] := fun _ => rfl
        generalize a_.eval = ρ_ at *
        go_simp
        exact ⟨Below.refl _ _, rfl⟩
      refine allFrom_cons ?_ ?_
      · intro a_ w_ hk_
        have h42 : a_.eval (.tmp 42) = (.bool false) := hk_.got 4 42 _ (by kernel_rfl) rfl rfl
        have hx_ := hk_.ext
        clear hk_
        refine flow_plain rfl ?_
        exact gives_move rfl ⟨Below.refl _ _, h42⟩
      refine allFrom_cons ?_ ?_
      · intro a_ w_ hk_
        have h7 : a_.eval (.tmp 7) = .pointer (some ⟨w.heap.size, 0, none⟩) := hk_.old 7 (by kernel_rfl)
        have hg_ : a_.eval (.tmp 43) = .bool false := hk_.got 5 43 _ (by kernel_rfl) rfl rfl
        have hy_ := hk_.want 5 _ 43 false rfl rfl hg_
        have hx_ := hk_.ext
        clear hk_
        refine flow_want rfl hy_ ?_
        unfold gives
        have hc_ : ∀ v, a_.eval (.const v) = v := fun _ => rfl
        have hn_ : ∀ f, a_.eval (.func f) = .func (.func f) #[] #[] := fun _ => rfl
        clear hy_ hg_
        generalize a_.eval = ρ_ at *
        go_simp
        exact ⟨Below.refl _ _, rfl⟩
      refine allFrom_cons ?_ ?_
      · intro a_ w_ hk_
        have h44 : a_.eval (.tmp 44) = (.pointer (some ⟨w.heap.size, 1, none⟩)) := hk_.got 6 44 _ (by kernel_rfl) rfl rfl
        have hg_ : a_.eval (.tmp 43) = .bool false := hk_.got 5 43 _ (by kernel_rfl) rfl rfl
        have hy_ := hk_.want 5 _ 43 false rfl rfl hg_
        have hx_ := hk_.ext
        clear hk_
        refine flow_want rfl hy_ ?_
        exact gives_ldC rfl h44 (aggHL ha) (fun j v hv => (hx_.cell (p := ⟨_, _, none⟩) hlA).trans (ca j v hv)) ⟨Below.refl _ _, rfl⟩
      refine allFrom_cons ?_ ?_
      · intro a_ w_ hk_
        have h8 : a_.eval (.tmp 8) = .pointer (some ⟨w.heap.size + 1, 0, none⟩) := hk_.old 8 (by kernel_rfl)
        have hg_ : a_.eval (.tmp 43) = .bool false := hk_.got 5 43 _ (by kernel_rfl) rfl rfl
        have hy_ := hk_.want 5 _ 43 false rfl rfl hg_
        have hx_ := hk_.ext
        clear hk_
        refine flow_want rfl hy_ ?_
        unfold gives
        have hc_ : ∀ v, a_.eval (.const v) = v := fun _ => rfl
        have hn_ : ∀ f, a_.eval (.func f) = .func (.func f) #[] #[] := fun _ => rfl
        clear hy_ hg_
        generalize a_.eval = ρ_ at *
        go_simp
        exact ⟨Below.refl _ _, rfl⟩
      refine allFrom_cons ?_ ?_
      · intro a_ w_ hk_
        have h46 : a_.eval (.tmp 46) = (.pointer (some ⟨w.heap.size + 1, 1, none⟩)) := hk_.got 8 46 _ (by kernel_rfl) rfl rfl
        have hg_ : a_.eval (.tmp 43) = .bool false := hk_.got 5 43 _ (by kernel_rfl) rfl rfl
        have hy_ := hk_.want 5 _ 43 false rfl rfl hg_
        have hx_ := hk_.ext
        clear hk_
        refine flow_want rfl hy_ ?_
        exact gives_ldC rfl h46 (aggHL hb) (fun j v hv => (hx_.cell (p := ⟨_, _, none⟩) hlB).trans (cbb j v hv)) ⟨Below.refl _ _, rfl⟩
      refine allFrom_cons ?_ ?_
      · intro a_ w_ hk_
        have h45 : a_.eval (.tmp 45) = (.agg (a.map cb).toArray) := hk_.got 7 45 _ (by kernel_rfl) rfl rfl
        have h47 : a_.eval (.tmp 47) = (.agg (b.map cb).toArray) := hk_.got 9 47 _ (by kernel_rfl) rfl rfl
        have hg_ : a_.eval (.tmp 43) = .bool false := hk_.got 5 43 _ (by kernel_rfl) rfl rfl
        have hy_ := hk_.want 5 _ 43 false rfl rfl hg_
        have hx_ := hk_.ext
        clear hk_
        refine flow_want rfl hy_ ?_
        unfold gives
        have hc_ : ∀ v, a_.eval (.const v) = v := fun _ => rfl
        have hn_ : ∀ f, a_.eval (.func f) = .func (.func f) #[] #[] := fun _ => rfl
        clear hy_ hg_
        generalize a_.eval = ρ_ at *
        go_simp
        exact ⟨Below.refl _ _, rfl⟩
      refine allFrom_cons ?_ ?_
      · intro a_ w_ hk_
        have h43 : a_.eval (.tmp 43) = (.bool false) := hk_.got 5 43 _ (by kernel_rfl) rfl rfl
        have h48 : a_.eval (.tmp 48) = (.bool false) := hk_.got 10 48 _ (by kernel_rfl) rfl rfl
        have hx_ := hk_.ext
        clear hk_
        refine flow_plain rfl ?_
        exact gives_pick rfl h43 ⟨Below.refl _ _, h48⟩
      refine allFrom_cons ?_ ?_
      · intro a_ w_ hk_
        have h49 : a_.eval (.tmp 49) = (.bool false) := hk_.got 11 49 _ (by kernel_rfl) rfl rfl
        have hx_ := hk_.ext
        clear hk_
        refine flow_plain rfl ?_
        exact gives_move rfl ⟨Below.refl _ _, h49⟩
      refine allFrom_cons ?_ ?_
      · intro a_ w_ hk_
        have h16 : a_.eval (.tmp 16) = .int .i64 0 := hk_.old 16 (by kernel_rfl)
        have hg_ : a_.eval (.tmp 50) = .bool false := hk_.got 12 50 _ (by kernel_rfl) rfl rfl
        have hy_ := hk_.want 12 _ 50 false rfl rfl hg_
        have hx_ := hk_.ext
        clear hk_
        refine flow_want rfl hy_ ?_
        exact gives_move rfl ⟨Below.refl _ _, h16⟩
      refine allFrom_cons ?_ ?_
      · intro a_ w_ hk_
        have h51 : a_.eval (.tmp 51) = (.int .i64 0) := hk_.got 13 51 _ (by kernel_rfl) rfl rfl
        have hg_ : a_.eval (.tmp 50) = .bool false := hk_.got 12 50 _ (by kernel_rfl) rfl rfl
        have hy_ := hk_.want 12 _ 50 false rfl rfl hg_
        have hx_ := hk_.ext
        clear hk_
        refine flow_want rfl hy_ ?_
        unfold gives
        have hc_ : ∀ v, a_.eval (.const v) = v := fun _ => rfl
        have hn_ : ∀ f, a_.eval (.func f) = .func (.func f) #[] #[] := fun _ => rfl
        clear hy_ hg_
        generalize a_.eval = ρ_ at *
        go_simp
        exact ⟨Below.refl _ _, rfl⟩
      refine allFrom_cons ?_ ?_
      · intro a_ w_ hk_
        have h50 : a_.eval (.tmp 50) = (.bool false) := hk_.got 12 50 _ (by kernel_rfl) rfl rfl
        have h52 : a_.eval (.tmp 52) = (.bool false) := hk_.got 14 52 _ (by kernel_rfl) rfl rfl
        have hx_ := hk_.ext
        clear hk_
        refine flow_plain rfl ?_
        exact gives_pick rfl h50 ⟨Below.refl _ _, h52⟩
      refine allFrom_cons ?_ ?_
      · intro a_ w_ hk_
        have h53 : a_.eval (.tmp 53) = (.bool false) := hk_.got 15 53 _ (by kernel_rfl) rfl rfl
        have hx_ := hk_.ext
        clear hk_
        refine flow_plain rfl ?_
        exact gives_move rfl ⟨Below.refl _ _, h53⟩
      refine allFrom_cons ?_ ?_
      · intro a_ w_ hk_
        have h19 : a_.eval (.tmp 19) = .int .i64 0 := hk_.old 19 (by kernel_rfl)
        have hg_ : a_.eval (.tmp 54) = .bool false := hk_.got 16 54 _ (by kernel_rfl) rfl rfl
        have hy_ := hk_.want 16 _ 54 false rfl rfl hg_
        have hx_ := hk_.ext
        clear hk_
        refine flow_want rfl hy_ ?_
        exact gives_move rfl ⟨Below.refl _ _, h19⟩
      refine allFrom_cons ?_ ?_
      · intro a_ w_ hk_
        have h55 : a_.eval (.tmp 55) = (.int .i64 0) := hk_.got 17 55 _ (by kernel_rfl) rfl rfl
        have hg_ : a_.eval (.tmp 54) = .bool false := hk_.got 16 54 _ (by kernel_rfl) rfl rfl
        have hy_ := hk_.want 16 _ 54 false rfl rfl hg_
        have hx_ := hk_.ext
        clear hk_
        refine flow_want rfl hy_ ?_
        unfold gives
        have hc_ : ∀ v, a_.eval (.const v) = v := fun _ => rfl
        have hn_ : ∀ f, a_.eval (.func f) = .func (.func f) #[] #[] := fun _ => rfl
        clear hy_ hg_
        generalize a_.eval = ρ_ at *
        go_simp
        exact ⟨Below.refl _ _, rfl⟩
      refine allFrom_cons ?_ ?_
      · intro a_ w_ hk_
        have h54 : a_.eval (.tmp 54) = (.bool false) := hk_.got 16 54 _ (by kernel_rfl) rfl rfl
        have h56 : a_.eval (.tmp 56) = (.bool false) := hk_.got 18 56 _ (by kernel_rfl) rfl rfl
        have hx_ := hk_.ext
        clear hk_
        refine flow_plain rfl ?_
        exact gives_pick rfl h54 ⟨Below.refl _ _, h56⟩
      refine allFrom_cons ?_ ?_
      · intro a_ w_ hk_
        have h57 : a_.eval (.tmp 57) = (.bool false) := hk_.got 19 57 _ (by kernel_rfl) rfl rfl
        have hx_ := hk_.ext
        clear hk_
        refine flow_plain rfl ?_
        exact gives_move rfl ⟨Below.refl _ _, h57⟩
      refine allFrom_cons ?_ ?_
      · intro a_ w_ hk_
        have h15 : a_.eval (.tmp 15) = .pointer (some ⟨g15, 0, none⟩) := hk_.old 15 (by kernel_rfl)
        have hg_ : a_.eval (.tmp 58) = .bool false := hk_.got 20 58 _ (by kernel_rfl) rfl rfl
        have hy_ := hk_.want 20 _ 58 false rfl rfl hg_
        have hx_ := hk_.ext
        clear hk_
        refine flow_want rfl hy_ ?_
        unfold gives
        have hc_ : ∀ v, a_.eval (.const v) = v := fun _ => rfl
        have hn_ : ∀ f, a_.eval (.func f) = .func (.func f) #[] #[] := fun _ => rfl
        clear hy_ hg_
        generalize a_.eval = ρ_ at *
        go_simp
        exact ⟨Below.refl _ _, rfl⟩
      refine allFrom_cons ?_ ?_
      · intro a_ w_ hk_
        have h59 : a_.eval (.tmp 59) = (.pointer (some ⟨g15, 0, none⟩)) := hk_.got 21 59 _ (by kernel_rfl) rfl rfl
        have hg_ : a_.eval (.tmp 58) = .bool false := hk_.got 20 58 _ (by kernel_rfl) rfl rfl
        have hy_ := hk_.want 20 _ 58 false rfl rfl hg_
        have hx_ := hk_.ext
        clear hk_
        refine flow_want rfl hy_ ?_
        exact gives_ldC rfl h59 (aggHL hX1) (fun j v hv => (hx_.cell (p := ⟨_, _, none⟩) hl15).trans (cx1 j v hv)) ⟨Below.refl _ _, rfl⟩
      refine allFrom_cons ?_ ?_
      · intro a_ w_ hk_
        have h7 : a_.eval (.tmp 7) = .pointer (some ⟨w.heap.size, 0, none⟩) := hk_.old 7 (by kernel_rfl)
        have hg_ : a_.eval (.tmp 58) = .bool false := hk_.got 20 58 _ (by kernel_rfl) rfl rfl
        have hy_ := hk_.want 20 _ 58 false rfl rfl hg_
        have hx_ := hk_.ext
        clear hk_
        refine flow_want rfl hy_ ?_
        unfold gives
        have hc_ : ∀ v, a_.eval (.const v) = v := fun _ => rfl
        have hn_ : ∀ f, a_.eval (.func f) = .func (.func f) #[] #[] := fun _ => rfl
        clear hy_ hg_
        generalize a_.eval = ρ_ at *
        go_simp
        exact ⟨Below.refl _ _, rfl⟩
      refine allFrom_cons ?_ ?_
      · intro a_ w_ hk_
        have h61 : a_.eval (.tmp 61) = (.pointer (some ⟨w.heap.size, 1, none⟩)) := hk_.got 23 61 _ (by kernel_rfl) rfl rfl
        have hg_ : a_.eval (.tmp 58) = .bool false := hk_.got 20 58 _ (by kernel_rfl) rfl rfl
        have hy_ := hk_.want 20 _ 58 false rfl rfl hg_
        have hx_ := hk_.ext
        clear hk_
        refine flow_want rfl hy_ ?_
        exact gives_ldC rfl h61 (aggHL ha) (fun j v hv => (hx_.cell (p := ⟨_, _, none⟩) hlA).trans (ca j v hv)) ⟨Below.refl _ _, rfl⟩
      refine allFrom_cons ?_ ?_
      · intro a_ w_ hk_
        have h60 : a_.eval (.tmp 60) = (.agg (X1.map cb).toArray) := hk_.got 22 60 _ (by kernel_rfl) rfl rfl
        have h62 : a_.eval (.tmp 62) = (.agg (a.map cb).toArray) := hk_.got 24 62 _ (by kernel_rfl) rfl rfl
        have hg_ : a_.eval (.tmp 58) = .bool false := hk_.got 20 58 _ (by kernel_rfl) rfl rfl
        have hy_ := hk_.want 20 _ 58 false rfl rfl hg_
        have hx_ := hk_.ext
        clear hk_
        refine flow_want rfl hy_ ?_
        unfold gives
        have hc_ : ∀ v, a_.eval (.const v) = v := fun _ => rfl
        have hn_ : ∀ f, a_.eval (.func f) = .func (.func f) #[] #[] := fun _ => rfl
        clear hy_ hg_
        generalize a_.eval = ρ_ at *
        go_simp
        exact ⟨Below.refl _ _, rfl⟩
      refine allFrom_cons ?_ ?_
      · intro a_ w_ hk_
        have h58 : a_.eval (.tmp 58) = (.bool false) := hk_.got 20 58 _ (by kernel_rfl) rfl rfl
        have h63 : a_.eval (.tmp 63) = (.bool true) := hk_.got 25 63 _ (by kernel_rfl) rfl rfl
        have hx_ := hk_.ext
        clear hk_
        refine flow_plain rfl ?_
        exact gives_pick rfl h58 ⟨Below.refl _ _, h63⟩
      refine allFrom_cons ?_ ?_
      · intro a_ w_ hk_
        have h64 : a_.eval (.tmp 64) = (.bool true) := hk_.got 26 64 _ (by kernel_rfl) rfl rfl
        have hx_ := hk_.ext
        clear hk_
        refine flow_plain rfl ?_
        exact gives_move rfl ⟨Below.refl _ _, h64⟩
      refine allFrom_cons ?_ ?_
      · intro a_ w_ hk_
        have h18 : a_.eval (.tmp 18) = .pointer (some ⟨g18, 0, none⟩) := hk_.old 18 (by kernel_rfl)
        have hg_ : a_.eval (.tmp 65) = .bool true := hk_.got 27 65 _ (by kernel_rfl) rfl rfl
        have hy_ := hk_.want 27 _ 65 true rfl rfl hg_
        have hx_ := hk_.ext
        clear hk_
        exact flow_skip rfl hy_ (by decide) trivial
      refine allFrom_cons ?_ ?_
      · intro a_ w_ hk_
        have hg_ : a_.eval (.tmp 65) = .bool true := hk_.got 27 65 _ (by kernel_rfl) rfl rfl
        have hy_ := hk_.want 27 _ 65 true rfl rfl hg_
        have hx_ := hk_.ext
        clear hk_
        exact flow_skip rfl hy_ (by decide) trivial
      refine allFrom_cons ?_ ?_
      · intro a_ w_ hk_
        have h8 : a_.eval (.tmp 8) = .pointer (some ⟨w.heap.size + 1, 0, none⟩) := hk_.old 8 (by kernel_rfl)
        have hg_ : a_.eval (.tmp 65) = .bool true := hk_.got 27 65 _ (by kernel_rfl) rfl rfl
        have hy_ := hk_.want 27 _ 65 true rfl rfl hg_
        have hx_ := hk_.ext
        clear hk_
        exact flow_skip rfl hy_ (by decide) trivial
      refine allFrom_cons ?_ ?_
      · intro a_ w_ hk_
        have hg_ : a_.eval (.tmp 65) = .bool true := hk_.got 27 65 _ (by kernel_rfl) rfl rfl
        have hy_ := hk_.want 27 _ 65 true rfl rfl hg_
        have hx_ := hk_.ext
        clear hk_
        exact flow_skip rfl hy_ (by decide) trivial
      refine allFrom_cons ?_ ?_
      · intro a_ w_ hk_
        have hg_ : a_.eval (.tmp 65) = .bool true := hk_.got 27 65 _ (by kernel_rfl) rfl rfl
        have hy_ := hk_.want 27 _ 65 true rfl rfl hg_
        have hx_ := hk_.ext
        clear hk_
        exact flow_skip rfl hy_ (by decide) trivial
      refine allFrom_cons ?_ ?_
      · intro a_ w_ hk_
        have h65 : a_.eval (.tmp 65) = (.bool true) := hk_.got 27 65 _ (by kernel_rfl) rfl rfl
        have hx_ := hk_.ext
        clear hk_
        refine flow_plain rfl ?_
        exact gives_pick rfl h65 ⟨Below.refl _ _, rfl⟩
      refine allFrom_cons ?_ ?_
      · intro a_ w_ hk_
        have h71 : a_.eval (.tmp 71) = (.bool true) := hk_.got 33 71 _ (by kernel_rfl) rfl rfl
        have hx_ := hk_.ext
        clear hk_
        refine flow_plain rfl ?_
        exact gives_move rfl ⟨Below.refl _ _, h71⟩
      refine allFrom_cons ?_ ?_
      · intro a_ w_ hk_
        have h15 : a_.eval (.tmp 15) = .pointer (some ⟨g15, 0, none⟩) := hk_.old 15 (by kernel_rfl)
        have hg_ : a_.eval (.tmp 72) = .bool true := hk_.got 34 72 _ (by kernel_rfl) rfl rfl
        have hy_ := hk_.want 34 _ 72 true rfl rfl hg_
        have hx_ := hk_.ext
        clear hk_
        exact flow_skip rfl hy_ (by decide) trivial
      refine allFrom_cons ?_ ?_
      · intro a_ w_ hk_
        have hg_ : a_.eval (.tmp 72) = .bool true := hk_.got 34 72 _ (by kernel_rfl) rfl rfl
        have hy_ := hk_.want 34 _ 72 true rfl rfl hg_
        have hx_ := hk_.ext
        clear hk_
        exact flow_skip rfl hy_ (by decide) trivial
      refine allFrom_cons ?_ ?_
      · intro a_ w_ hk_
        have h18 : a_.eval (.tmp 18) = .pointer (some ⟨g18, 0, none⟩) := hk_.old 18 (by kernel_rfl)
        have hg_ : a_.eval (.tmp 72) = .bool true := hk_.got 34 72 _ (by kernel_rfl) rfl rfl
        have hy_ := hk_.want 34 _ 72 true rfl rfl hg_
        have hx_ := hk_.ext
        clear hk_
        exact flow_skip rfl hy_ (by decide) trivial
      refine allFrom_cons ?_ ?_
      · intro a_ w_ hk_
        have hg_ : a_.eval (.tmp 72) = .bool true := hk_.got 34 72 _ (by kernel_rfl) rfl rfl
        have hy_ := hk_.want 34 _ 72 true rfl rfl hg_
        have hx_ := hk_.ext
        clear hk_
        exact flow_skip rfl hy_ (by decide) trivial
      refine allFrom_cons ?_ ?_
      · intro a_ w_ hk_
        have hg_ : a_.eval (.tmp 72) = .bool true := hk_.got 34 72 _ (by kernel_rfl) rfl rfl
        have hy_ := hk_.want 34 _ 72 true rfl rfl hg_
        have hx_ := hk_.ext
        clear hk_
        exact flow_skip rfl hy_ (by decide) trivial
      refine allFrom_cons ?_ ?_
      · intro a_ w_ hk_
        have h72 : a_.eval (.tmp 72) = (.bool true) := hk_.got 34 72 _ (by kernel_rfl) rfl rfl
        have hx_ := hk_.ext
        clear hk_
        refine flow_plain rfl ?_
        exact gives_pick rfl h72 ⟨Below.refl _ _, rfl⟩
      exact allFrom_nil
    intro f_ w_ hx_ hf_
    have h38 : f_ 38 = (.pointer (some ⟨w.heap.size, 0, none⟩)) := hf_ 0 38 _ (by decide) rfl rfl
    have h39 : f_ 39 = (.int .u64 (m : Int)) := hf_ 1 39 _ (by decide) rfl rfl
    have h40 : f_ 40 = (.pointer (some ⟨w.heap.size + 1, 0, none⟩)) := hf_ 2 40 _ (by decide) rfl rfl
    have h41 : f_ 41 = (.int .u64 (m : Int)) := hf_ 3 41 _ (by decide) rfl rfl
    have h42 : f_ 42 = (.bool false) := hf_ 4 42 _ (by decide) rfl rfl
    have h43 : f_ 43 = (.bool false) := hf_ 5 43 _ (by decide) rfl rfl
    have h44 : f_ 44 = (.pointer (some ⟨w.heap.size, 1, none⟩)) := hf_ 6 44 _ (by decide) rfl rfl
    have h45 : f_ 45 = (.agg (a.map cb).toArray) := hf_ 7 45 _ (by decide) rfl rfl
    have h46 : f_ 46 = (.pointer (some ⟨w.heap.size + 1, 1, none⟩)) := hf_ 8 46 _ (by decide) rfl rfl
    have h47 : f_ 47 = (.agg (b.map cb).toArray) := hf_ 9 47 _ (by decide) rfl rfl
    have h48 : f_ 48 = (.bool false) := hf_ 10 48 _ (by decide) rfl rfl
    have h49 : f_ 49 = (.bool false) := hf_ 11 49 _ (by decide) rfl rfl
    have h50 : f_ 50 = (.bool false) := hf_ 12 50 _ (by decide) rfl rfl
    have h51 : f_ 51 = (.int .i64 0) := hf_ 13 51 _ (by decide) rfl rfl
    have h52 : f_ 52 = (.bool false) := hf_ 14 52 _ (by decide) rfl rfl
    have h53 : f_ 53 = (.bool false) := hf_ 15 53 _ (by decide) rfl rfl
    have h54 : f_ 54 = (.bool false) := hf_ 16 54 _ (by decide) rfl rfl
    have h55 : f_ 55 = (.int .i64 0) := hf_ 17 55 _ (by decide) rfl rfl
    have h56 : f_ 56 = (.bool false) := hf_ 18 56 _ (by decide) rfl rfl
    have h57 : f_ 57 = (.bool false) := hf_ 19 57 _ (by decide) rfl rfl
    have h58 : f_ 58 = (.bool false) := hf_ 20 58 _ (by decide) rfl rfl
    have h59 : f_ 59 = (.pointer (some ⟨g15, 0, none⟩)) := hf_ 21 59 _ (by decide) rfl rfl
    have h60 : f_ 60 = (.agg (X1.map cb).toArray) := hf_ 22 60 _ (by decide) rfl rfl
    have h61 : f_ 61 = (.pointer (some ⟨w.heap.size, 1, none⟩)) := hf_ 23 61 _ (by decide) rfl rfl
    have h62 : f_ 62 = (.agg (a.map cb).toArray) := hf_ 24 62 _ (by decide) rfl rfl
    have h63 : f_ 63 = (.bool true) := hf_ 25 63 _ (by decide) rfl rfl
    have h64 : f_ 64 = (.bool true) := hf_ 26 64 _ (by decide) rfl rfl
    have h65 : f_ 65 = (.bool true) := hf_ 27 65 _ (by decide) rfl rfl
    have h71 : f_ 71 = (.bool true) := hf_ 33 71 _ (by decide) rfl rfl
    have h72 : f_ 72 = (.bool true) := hf_ 34 72 _ (by decide) rfl rfl
    have h78 : f_ 78 = (.bool true) := hf_ 40 78 _ (by decide) rfl rfl
    simp only [mix, h38, h39, h40, h41, h42, h43, h44, h45, h46, h47, h48, h49, h50, h51, h52, h53, h54, h55, h56, h57, h58, h59, h60, h61, h62, h63, h64, h65, h71, h72, h78]
    clear h38 h39 h40 h41 h42 h43 h44 h45 h46 h47 h48 h49 h50 h51 h52 h53 h54 h55 h56 h57 h58 h59 h60 h61 h62 h63 h64 h65 h71 h72 h78
    clear hf_
    have hzf := hz8.below hx_ hz8.lt
    have hbf := bx_trans hb08 hx_
    clear hx_
    go_wp2_with (first
      | ((with_reducible refine wpAtC ?_); refine wpList_gives rfl (gives_build (S := fun v w' => v = .agg #[nilC, nilC] ∧ w' = _) tCl #[] rfl [] (by simp) bltClN ⟨rfl, rfl⟩) ?_; rintro v12 w12 ⟨rfl, rfl⟩; simp only [Act.put, List.setIfInBounds_toArray, List.set_cons_succ, List.set_cons_zero])
      | ((with_reducible refine wpAtC ?_); refine wpList_store_agg rfl _ _ _ rfl _ _ rfl #[nilC, nilC] rfl (aggCl _ _) hzf (Nat.le_refl _) (by intro v hv; simp at hv; rcases hv with rfl | rfl <;> rfl) ?_; intro w13 hp13; simp only [Act.put]))
    exact bodyPost_ret (results_h2 (cs := [nilC, nilC]) rfl rfl (aggCl _ _) (blk_cells hp13.blk)) rfl ⟨bx_put hbf hp13 hg12w, .inl ⟨.inl (by rw [HG.out]; rintro ⟨k1, k2, k3, k4, k5, k6⟩; exact H4'.out k4), rfl⟩⟩
  rw [show (X1 == a) = true by simpa using h4] at heq2
  have H4' := hid h4
  clear h4
  by_cases h5 : X2 = b
  rotate_left
  · have H5' := hid h5
    rw [show (X2 == b) = false by simpa using h5] at heq3
    clear heq4 h5
    refine wp_region_lit ?_
    refine wp_flowSE [0, 1, 3, 7, 15, 31, 63, 127, 255, 511, 1023, 2047, 4095, 8191, 16383, 32767, 65535, 131071, 262143, 524287, 1048575, 2097151, 4194303, 8388607, 16777215, 33554431, 67108863, 134217727, 268435455, 536870911, 1073741823, 2147483647, 4294967295, 8589934591, 17179869183, 34359738367, 68719476735, 137438953471, 274877906943, 549755813887, 1099511627775] 41 [false, false, false, false, false, false, false, false, false, false, false, false, false, false, false, false, false, false, false, false, false, false, false, false, false, false, false, false, false, false, false, false, false, false, false, false, false, false, true, true, true, true, true, true, true, true, true, true, true, true, true, true, true, true, true, true, true, true, true, true, true, true, true, true, true, true, true, true, true, true, true, true, true, true, true, true, true, true, true] (by kernel_rfl) (by kernel_rfl) (by kernel_rfl) [FP.eq (.pointer (some ⟨w.heap.size, 0, none⟩)), FP.eq (.int .u64 (m : Int)), FP.eq (.pointer (some ⟨w.heap.size + 1, 0, none⟩)), FP.eq (.int .u64 (m : Int)), FP.eq (.bool false), FP.eq (.bool false), FP.eq (.pointer (some ⟨w.heap.size, 1, none⟩)), FP.eq (.agg (a.map cb).toArray), FP.eq (.pointer (some ⟨w.heap.size + 1, 1, none⟩)), FP.eq (.agg (b.map cb).toArray), FP.eq (.bool false), FP.eq (.bool false), FP.eq (.bool false), FP.eq (.int .i64 0), FP.eq (.bool false), FP.eq (.bool false), FP.eq (.bool false), FP.eq (.int .i64 0), FP.eq (.bool false), FP.eq (.bool false), FP.eq (.bool false), FP.eq (.pointer (some ⟨g15, 0, none⟩)), FP.eq (.agg (X1.map cb).toArray), FP.eq (.pointer (some ⟨w.heap.size, 1, none⟩)), FP.eq (.agg (a.map cb).toArray), FP.eq (.bool false), FP.eq (.bool false), FP.eq (.bool false), FP.eq (.pointer (some ⟨g18, 0, none⟩)), FP.eq (.agg (X2.map cb).toArray), FP.eq (.pointer (some ⟨w.heap.size + 1, 1, none⟩)), FP.eq (.agg (b.map cb).toArray), FP.eq (.bool true), FP.eq (.bool true), FP.eq (.bool true), FP.any, FP.any, FP.any, FP.any, FP.any, FP.eq (.bool true)] ?_ ?_
    · refine allFrom_cons ?_ ?_
      · intro a_ w_ hk_
        have h7 : a_.eval (.tmp 7) = .pointer (some ⟨w.heap.size, 0, none⟩) := hk_.old 7 (by kernel_rfl)
        have hx_ := hk_.ext
        clear hk_
        refine flow_plain rfl ?_
        unfold gives
        have hc_ : ∀ v, a_.eval (.const v) = v := fun _ => rfl
        have hn_ : ∀ f, a_.eval (.func f) = .func (.func f) #[] #[] := fun _ => rfl
        generalize a_.eval = ρ_ at *
        go_simp
        exact ⟨Below.refl _ _, rfl⟩
      refine allFrom_cons ?_ ?_
      · intro a_ w_ hk_
        have h38 : a_.eval (.tmp 38) = (.pointer (some ⟨w.heap.size, 0, none⟩)) := hk_.got 0 38 _ (by kernel_rfl) rfl rfl
        have hx_ := hk_.ext
        clear hk_
        refine flow_plain rfl ?_
        unfold gives
        have hc_ : ∀ v, a_.eval (.const v) = v := fun _ => rfl
        have hn_ : ∀ f, a_.eval (.func f) = .func (.func f) #[] #[] := fun _ => rfl
        have hcell := (hx_.cell (p := ⟨w.heap.size, 0, none⟩) hlA).trans csA
        generalize a_.eval = ρ_ at *
        go_simp
        exact ⟨Below.refl _ _, rfl⟩
      refine allFrom_cons ?_ ?_
      · intro a_ w_ hk_
        have h8 : a_.eval (.tmp 8) = .pointer (some ⟨w.heap.size + 1, 0, none⟩) := hk_.old 8 (by kernel_rfl)
        have hx_ := hk_.ext
        clear hk_
        refine flow_plain rfl ?_
        unfold gives
        have hc_ : ∀ v, a_.eval (.const v) = v := fun _ => rfl
        have hn_ : ∀ f, a_.eval (.func f) = .func (.func f) #[] #[] := fun _ => rfl
        generalize a_.eval = ρ_ at *
        go_simp
        exact ⟨Below.refl _ _, rfl⟩
      refine allFrom_cons ?_ ?_
      · intro a_ w_ hk_
        have h40 : a_.eval (.tmp 40) = (.pointer (some ⟨w.heap.size + 1, 0, none⟩)) := hk_.got 2 40 _ (by kernel_rfl) rfl rfl
        have hx_ := hk_.ext
        clear hk_
        refine flow_plain rfl ?_
        unfold gives
        have hc_ : ∀ v, a_.eval (.const v) = v := fun _ => rfl
        have hn_ : ∀ f, a_.eval (.func f) = .func (.func f) #[] #[] := fun _ => rfl
        have hcell := (hx_.cell (p := ⟨w.heap.size + 1, 0, none⟩) hlB).trans csB
        generalize a_.eval = ρ_ at *
        go_simp
        exact ⟨Below.refl _ _, rfl⟩
      refine allFrom_cons ?_ ?_
      · intro a_ w_ hk_
        have h39 : a_.eval (.tmp 39) = (.int .u64 (m : Int)) := hk_.got 1 39 _ (by kernel_rfl) rfl rfl
        have h41 : a_.eval (.tmp 41) = (.int .u64 (m : Int)) := hk_.got 3 41 _ (by kernel_rfl) rfl rfl
        have hx_ := hk_.ext
        clear hk_
        refine flow_plain rfl ?_
        unfold gives
        have hc_ : ∀ v, a_.eval (.const v) = v := fun _ => rfl
        have hn_ : ∀ f, a_.eval (.func f) = .func (.func f) #[] #[] := fun _ => rfl
        generalize a_.eval = ρ_ at *
        go_simp
        exact ⟨Below.refl _ _, rfl⟩
      refine allFrom_cons ?_ ?_
      · intro a_ w_ hk_
        have h42 : a_.eval (.tmp 42) = (.bool false) := hk_.got 4 42 _ (by kernel_rfl) rfl rfl
        have hx_ := hk_.ext
        clear hk_
        refine flow_plain rfl ?_
        exact gives_move rfl ⟨Below.refl _ _, h42⟩
      refine allFrom_cons ?_ ?_
      · intro a_ w_ hk_
        have h7 : a_.eval (.tmp 7) = .pointer (some ⟨w.heap.size, 0, none⟩) := hk_.old 7 (by kernel_rfl)
        have hg_ : a_.eval (.tmp 43) = .bool false := hk_.got 5 43 _ (by kernel_rfl) rfl rfl
        have hy_ := hk_.want 5 _ 43 false rfl rfl hg_
        have hx_ := hk_.ext
        clear hk_
        refine flow_want rfl hy_ ?_
        unfold gives
        have hc_ : ∀ v, a_.eval (.const v) = v := fun _ => rfl
        have hn_ : ∀ f, a_.eval (.func f) = .func (.func f) #[] #[] := fun _ => rfl
        clear hy_ hg_
        generalize a_.eval = ρ_ at *
        go_simp
        exact ⟨Below.refl _ _, rfl⟩
      refine allFrom_cons ?_ ?_
      · intro a_ w_ hk_
        have h44 : a_.eval (.tmp 44) = (.pointer (some ⟨w.heap.size, 1, none⟩)) := hk_.got 6 44 _ (by kernel_rfl) rfl rfl
        have hg_ : a_.eval (.tmp 43) = .bool false := hk_.got 5 43 _ (by kernel_rfl) rfl rfl
        have hy_ := hk_.want 5 _ 43 false rfl rfl hg_
        have hx_ := hk_.ext
        clear hk_
        refine flow_want rfl hy_ ?_
        exact gives_ldC rfl h44 (aggHL ha) (fun j v hv => (hx_.cell (p := ⟨_, _, none⟩) hlA).trans (ca j v hv)) ⟨Below.refl _ _, rfl⟩
      refine allFrom_cons ?_ ?_
      · intro a_ w_ hk_
        have h8 : a_.eval (.tmp 8) = .pointer (some ⟨w.heap.size + 1, 0, none⟩) := hk_.old 8 (by kernel_rfl)
        have hg_ : a_.eval (.tmp 43) = .bool false := hk_.got 5 43 _ (by kernel_rfl) rfl rfl
        have hy_ := hk_.want 5 _ 43 false rfl rfl hg_
        have hx_ := hk_.ext
        clear hk_
        refine flow_want rfl hy_ ?_
        unfold gives
        have hc_ : ∀ v, a_.eval (.const v) = v := fun _ => rfl
        have hn_ : ∀ f, a_.eval (.func f) = .func (.func f) #[] #[] := fun _ => rfl
        clear hy_ hg_
        generalize a_.eval = ρ_ at *
        go_simp
        exact ⟨Below.refl _ _, rfl⟩
      refine allFrom_cons ?_ ?_
      · intro a_ w_ hk_
        have h46 : a_.eval (.tmp 46) = (.pointer (some ⟨w.heap.size + 1, 1, none⟩)) := hk_.got 8 46 _ (by kernel_rfl) rfl rfl
        have hg_ : a_.eval (.tmp 43) = .bool false := hk_.got 5 43 _ (by kernel_rfl) rfl rfl
        have hy_ := hk_.want 5 _ 43 false rfl rfl hg_
        have hx_ := hk_.ext
        clear hk_
        refine flow_want rfl hy_ ?_
        exact gives_ldC rfl h46 (aggHL hb) (fun j v hv => (hx_.cell (p := ⟨_, _, none⟩) hlB).trans (cbb j v hv)) ⟨Below.refl _ _, rfl⟩
      refine allFrom_cons ?_ ?_
      · intro a_ w_ hk_
        have h45 : a_.eval (.tmp 45) = (.agg (a.map cb).toArray) := hk_.got 7 45 _ (by kernel_rfl) rfl rfl
        have h47 : a_.eval (.tmp 47) = (.agg (b.map cb).toArray) := hk_.got 9 47 _ (by kernel_rfl) rfl rfl
        have hg_ : a_.eval (.tmp 43) = .bool false := hk_.got 5 43 _ (by kernel_rfl) rfl rfl
        have hy_ := hk_.want 5 _ 43 false rfl rfl hg_
        have hx_ := hk_.ext
        clear hk_
        refine flow_want rfl hy_ ?_
        unfold gives
        have hc_ : ∀ v, a_.eval (.const v) = v := fun _ => rfl
        have hn_ : ∀ f, a_.eval (.func f) = .func (.func f) #[] #[] := fun _ => rfl
        clear hy_ hg_
        generalize a_.eval = ρ_ at *
        go_simp
        exact ⟨Below.refl _ _, rfl⟩
      refine allFrom_cons ?_ ?_
      · intro a_ w_ hk_
        have h43 : a_.eval (.tmp 43) = (.bool false) := hk_.got 5 43 _ (by kernel_rfl) rfl rfl
        have h48 : a_.eval (.tmp 48) = (.bool false) := hk_.got 10 48 _ (by kernel_rfl) rfl rfl
        have hx_ := hk_.ext
        clear hk_
        refine flow_plain rfl ?_
        exact gives_pick rfl h43 ⟨Below.refl _ _, h48⟩
      refine allFrom_cons ?_ ?_
      · intro a_ w_ hk_
        have h49 : a_.eval (.tmp 49) = (.bool false) := hk_.got 11 49 _ (by kernel_rfl) rfl rfl
        have hx_ := hk_.ext
        clear hk_
        refine flow_plain rfl ?_
        exact gives_move rfl ⟨Below.refl _ _, h49⟩
      refine allFrom_cons ?_ ?_
      · intro a_ w_ hk_
        have h16 : a_.eval (.tmp 16) = .int .i64 0 := hk_.old 16 (by kernel_rfl)
        have hg_ : a_.eval (.tmp 50) = .bool false := hk_.got 12 50 _ (by kernel_rfl) rfl rfl
        have hy_ := hk_.want 12 _ 50 false rfl rfl hg_
        have hx_ := hk_.ext
        clear hk_
        refine flow_want rfl hy_ ?_
        exact gives_move rfl ⟨Below.refl _ _, h16⟩
      refine allFrom_cons ?_ ?_
      · intro a_ w_ hk_
        have h51 : a_.eval (.tmp 51) = (.int .i64 0) := hk_.got 13 51 _ (by kernel_rfl) rfl rfl
        have hg_ : a_.eval (.tmp 50) = .bool false := hk_.got 12 50 _ (by kernel_rfl) rfl rfl
        have hy_ := hk_.want 12 _ 50 false rfl rfl hg_
        have hx_ := hk_.ext
        clear hk_
        refine flow_want rfl hy_ ?_
        unfold gives
        have hc_ : ∀ v, a_.eval (.const v) = v := fun _ => rfl
        have hn_ : ∀ f, a_.eval (.func f) = .func (.func f) #[] #[] := fun _ => rfl
        clear hy_ hg_
        generalize a_.eval = ρ_ at *
        go_simp
        exact ⟨Below.refl _ _, rfl⟩
      refine allFrom_cons ?_ ?_
      · intro a_ w_ hk_
        have h50 : a_.eval (.tmp 50) = (.bool false) := hk_.got 12 50 _ (by kernel_rfl) rfl rfl
        have h52 : a_.eval (.tmp 52) = (.bool false) := hk_.got 14 52 _ (by kernel_rfl) rfl rfl
        have hx_ := hk_.ext
        clear hk_
        refine flow_plain rfl ?_
        exact gives_pick rfl h50 ⟨Below.refl _ _, h52⟩
      refine allFrom_cons ?_ ?_
      · intro a_ w_ hk_
        have h53 : a_.eval (.tmp 53) = (.bool false) := hk_.got 15 53 _ (by kernel_rfl) rfl rfl
        have hx_ := hk_.ext
        clear hk_
        refine flow_plain rfl ?_
        exact gives_move rfl ⟨Below.refl _ _, h53⟩
      refine allFrom_cons ?_ ?_
      · intro a_ w_ hk_
        have h19 : a_.eval (.tmp 19) = .int .i64 0 := hk_.old 19 (by kernel_rfl)
        have hg_ : a_.eval (.tmp 54) = .bool false := hk_.got 16 54 _ (by kernel_rfl) rfl rfl
        have hy_ := hk_.want 16 _ 54 false rfl rfl hg_
        have hx_ := hk_.ext
        clear hk_
        refine flow_want rfl hy_ ?_
        exact gives_move rfl ⟨Below.refl _ _, h19⟩
      refine allFrom_cons ?_ ?_
      · intro a_ w_ hk_
        have h55 : a_.eval (.tmp 55) = (.int .i64 0) := hk_.got 17 55 _ (by kernel_rfl) rfl rfl
        have hg_ : a_.eval (.tmp 54) = .bool false := hk_.got 16 54 _ (by kernel_rfl) rfl rfl
        have hy_ := hk_.want 16 _ 54 false rfl rfl hg_
        have hx_ := hk_.ext
        clear hk_
        refine flow_want rfl hy_ ?_
        unfold gives
        have hc_ : ∀ v, a_.eval (.const v) = v := fun _ => rfl
        have hn_ : ∀ f, a_.eval (.func f) = .func (.func f) #[] #[] := fun _ => rfl
        clear hy_ hg_
        generalize a_.eval = ρ_ at *
        go_simp
        exact ⟨Below.refl _ _, rfl⟩
      refine allFrom_cons ?_ ?_
      · intro a_ w_ hk_
        have h54 : a_.eval (.tmp 54) = (.bool false) := hk_.got 16 54 _ (by kernel_rfl) rfl rfl
        have h56 : a_.eval (.tmp 56) = (.bool false) := hk_.got 18 56 _ (by kernel_rfl) rfl rfl
        have hx_ := hk_.ext
        clear hk_
        refine flow_plain rfl ?_
        exact gives_pick rfl h54 ⟨Below.refl _ _, h56⟩
      refine allFrom_cons ?_ ?_
      · intro a_ w_ hk_
        have h57 : a_.eval (.tmp 57) = (.bool false) := hk_.got 19 57 _ (by kernel_rfl) rfl rfl
        have hx_ := hk_.ext
        clear hk_
        refine flow_plain rfl ?_
        exact gives_move rfl ⟨Below.refl _ _, h57⟩
      refine allFrom_cons ?_ ?_
      · intro a_ w_ hk_
        have h15 : a_.eval (.tmp 15) = .pointer (some ⟨g15, 0, none⟩) := hk_.old 15 (by kernel_rfl)
        have hg_ : a_.eval (.tmp 58) = .bool false := hk_.got 20 58 _ (by kernel_rfl) rfl rfl
        have hy_ := hk_.want 20 _ 58 false rfl rfl hg_
        have hx_ := hk_.ext
        clear hk_
        refine flow_want rfl hy_ ?_
        unfold gives
        have hc_ : ∀ v, a_.eval (.const v) = v := fun _ => rfl
        have hn_ : ∀ f, a_.eval (.func f) = .func (.func f) #[] #[] := fun _ => rfl
        clear hy_ hg_
        generalize a_.eval = ρ_ at *
        go_simp
        exact ⟨Below.refl _ _, rfl⟩
      refine allFrom_cons ?_ ?_
      · intro a_ w_ hk_
        have h59 : a_.eval (.tmp 59) = (.pointer (some ⟨g15, 0, none⟩)) := hk_.got 21 59 _ (by kernel_rfl) rfl rfl
        have hg_ : a_.eval (.tmp 58) = .bool false := hk_.got 20 58 _ (by kernel_rfl) rfl rfl
        have hy_ := hk_.want 20 _ 58 false rfl rfl hg_
        have hx_ := hk_.ext
        clear hk_
        refine flow_want rfl hy_ ?_
        exact gives_ldC rfl h59 (aggHL hX1) (fun j v hv => (hx_.cell (p := ⟨_, _, none⟩) hl15).trans (cx1 j v hv)) ⟨Below.refl _ _, rfl⟩
      refine allFrom_cons ?_ ?_
      · intro a_ w_ hk_
        have h7 : a_.eval (.tmp 7) = .pointer (some ⟨w.heap.size, 0, none⟩) := hk_.old 7 (by kernel_rfl)
        have hg_ : a_.eval (.tmp 58) = .bool false := hk_.got 20 58 _ (by kernel_rfl) rfl rfl
        have hy_ := hk_.want 20 _ 58 false rfl rfl hg_
        have hx_ := hk_.ext
        clear hk_
        refine flow_want rfl hy_ ?_
        unfold gives
        have hc_ : ∀ v, a_.eval (.const v) = v := fun _ => rfl
        have hn_ : ∀ f, a_.eval (.func f) = .func (.func f) #[] #[] := fun _ => rfl
        clear hy_ hg_
        generalize a_.eval = ρ_ at *
        go_simp
        exact ⟨Below.refl _ _, rfl⟩
      refine allFrom_cons ?_ ?_
      · intro a_ w_ hk_
        have h61 : a_.eval (.tmp 61) = (.pointer (some ⟨w.heap.size, 1, none⟩)) := hk_.got 23 61 _ (by kernel_rfl) rfl rfl
        have hg_ : a_.eval (.tmp 58) = .bool false := hk_.got 20 58 _ (by kernel_rfl) rfl rfl
        have hy_ := hk_.want 20 _ 58 false rfl rfl hg_
        have hx_ := hk_.ext
        clear hk_
        refine flow_want rfl hy_ ?_
        exact gives_ldC rfl h61 (aggHL ha) (fun j v hv => (hx_.cell (p := ⟨_, _, none⟩) hlA).trans (ca j v hv)) ⟨Below.refl _ _, rfl⟩
      refine allFrom_cons ?_ ?_
      · intro a_ w_ hk_
        have h60 : a_.eval (.tmp 60) = (.agg (X1.map cb).toArray) := hk_.got 22 60 _ (by kernel_rfl) rfl rfl
        have h62 : a_.eval (.tmp 62) = (.agg (a.map cb).toArray) := hk_.got 24 62 _ (by kernel_rfl) rfl rfl
        have hg_ : a_.eval (.tmp 58) = .bool false := hk_.got 20 58 _ (by kernel_rfl) rfl rfl
        have hy_ := hk_.want 20 _ 58 false rfl rfl hg_
        have hx_ := hk_.ext
        clear hk_
        refine flow_want rfl hy_ ?_
        unfold gives
        have hc_ : ∀ v, a_.eval (.const v) = v := fun _ => rfl
        have hn_ : ∀ f, a_.eval (.func f) = .func (.func f) #[] #[] := fun _ => rfl
        clear hy_ hg_
        generalize a_.eval = ρ_ at *
        go_simp
        exact ⟨Below.refl _ _, rfl⟩
      refine allFrom_cons ?_ ?_
      · intro a_ w_ hk_
        have h58 : a_.eval (.tmp 58) = (.bool false) := hk_.got 20 58 _ (by kernel_rfl) rfl rfl
        have h63 : a_.eval (.tmp 63) = (.bool false) := hk_.got 25 63 _ (by kernel_rfl) rfl rfl
        have hx_ := hk_.ext
        clear hk_
        refine flow_plain rfl ?_
        exact gives_pick rfl h58 ⟨Below.refl _ _, h63⟩
      refine allFrom_cons ?_ ?_
      · intro a_ w_ hk_
        have h64 : a_.eval (.tmp 64) = (.bool false) := hk_.got 26 64 _ (by kernel_rfl) rfl rfl
        have hx_ := hk_.ext
        clear hk_
        refine flow_plain rfl ?_
        exact gives_move rfl ⟨Below.refl _ _, h64⟩
      refine allFrom_cons ?_ ?_
      · intro a_ w_ hk_
        have h18 : a_.eval (.tmp 18) = .pointer (some ⟨g18, 0, none⟩) := hk_.old 18 (by kernel_rfl)
        have hg_ : a_.eval (.tmp 65) = .bool false := hk_.got 27 65 _ (by kernel_rfl) rfl rfl
        have hy_ := hk_.want 27 _ 65 false rfl rfl hg_
        have hx_ := hk_.ext
        clear hk_
        refine flow_want rfl hy_ ?_
        unfold gives
        have hc_ : ∀ v, a_.eval (.const v) = v := fun _ => rfl
        have hn_ : ∀ f, a_.eval (.func f) = .func (.func f) #[] #[] := fun _ => rfl
        clear hy_ hg_
        generalize a_.eval = ρ_ at *
        go_simp
        exact ⟨Below.refl _ _, rfl⟩
      refine allFrom_cons ?_ ?_
      · intro a_ w_ hk_
        have h66 : a_.eval (.tmp 66) = (.pointer (some ⟨g18, 0, none⟩)) := hk_.got 28 66 _ (by kernel_rfl) rfl rfl
        have hg_ : a_.eval (.tmp 65) = .bool false := hk_.got 27 65 _ (by kernel_rfl) rfl rfl
        have hy_ := hk_.want 27 _ 65 false rfl rfl hg_
        have hx_ := hk_.ext
        clear hk_
        refine flow_want rfl hy_ ?_
        exact gives_ldC rfl h66 (aggHL hX2) (fun j v hv => (hx_.cell (p := ⟨_, _, none⟩) hl18).trans (cx2 j v hv)) ⟨Below.refl _ _, rfl⟩
      refine allFrom_cons ?_ ?_
      · intro a_ w_ hk_
        have h8 : a_.eval (.tmp 8) = .pointer (some ⟨w.heap.size + 1, 0, none⟩) := hk_.old 8 (by kernel_rfl)
        have hg_ : a_.eval (.tmp 65) = .bool false := hk_.got 27 65 _ (by kernel_rfl) rfl rfl
        have hy_ := hk_.want 27 _ 65 false rfl rfl hg_
        have hx_ := hk_.ext
        clear hk_
        refine flow_want rfl hy_ ?_
        unfold gives
        have hc_ : ∀ v, a_.eval (.const v) = v := fun _ => rfl
        have hn_ : ∀ f, a_.eval (.func f) = .func (.func f) #[] #[] := fun _ => rfl
        clear hy_ hg_
        generalize a_.eval = ρ_ at *
        go_simp
        exact ⟨Below.refl _ _, rfl⟩
      refine allFrom_cons ?_ ?_
      · intro a_ w_ hk_
        have h68 : a_.eval (.tmp 68) = (.pointer (some ⟨w.heap.size + 1, 1, none⟩)) := hk_.got 30 68 _ (by kernel_rfl) rfl rfl
        have hg_ : a_.eval (.tmp 65) = .bool false := hk_.got 27 65 _ (by kernel_rfl) rfl rfl
        have hy_ := hk_.want 27 _ 65 false rfl rfl hg_
        have hx_ := hk_.ext
        clear hk_
        refine flow_want rfl hy_ ?_
        exact gives_ldC rfl h68 (aggHL hb) (fun j v hv => (hx_.cell (p := ⟨_, _, none⟩) hlB).trans (cbb j v hv)) ⟨Below.refl _ _, rfl⟩
      refine allFrom_cons ?_ ?_
      · intro a_ w_ hk_
        have h67 : a_.eval (.tmp 67) = (.agg (X2.map cb).toArray) := hk_.got 29 67 _ (by kernel_rfl) rfl rfl
        have h69 : a_.eval (.tmp 69) = (.agg (b.map cb).toArray) := hk_.got 31 69 _ (by kernel_rfl) rfl rfl
        have hg_ : a_.eval (.tmp 65) = .bool false := hk_.got 27 65 _ (by kernel_rfl) rfl rfl
        have hy_ := hk_.want 27 _ 65 false rfl rfl hg_
        have hx_ := hk_.ext
        clear hk_
        refine flow_want rfl hy_ ?_
        unfold gives
        have hc_ : ∀ v, a_.eval (.const v) = v := fun _ => rfl
        have hn_ : ∀ f, a_.eval (.func f) = .func (.func f) #[] #[] := fun _ => rfl
        clear hy_ hg_
        generalize a_.eval = ρ_ at *
        go_simp
        exact ⟨Below.refl _ _, rfl⟩
      refine allFrom_cons ?_ ?_
      · intro a_ w_ hk_
        have h65 : a_.eval (.tmp 65) = (.bool false) := hk_.got 27 65 _ (by kernel_rfl) rfl rfl
        have h70 : a_.eval (.tmp 70) = (.bool true) := hk_.got 32 70 _ (by kernel_rfl) rfl rfl
        have hx_ := hk_.ext
        clear hk_
        refine flow_plain rfl ?_
        exact gives_pick rfl h65 ⟨Below.refl _ _, h70⟩
      refine allFrom_cons ?_ ?_
      · intro a_ w_ hk_
        have h71 : a_.eval (.tmp 71) = (.bool true) := hk_.got 33 71 _ (by kernel_rfl) rfl rfl
        have hx_ := hk_.ext
        clear hk_
        refine flow_plain rfl ?_
        exact gives_move rfl ⟨Below.refl _ _, h71⟩
      refine allFrom_cons ?_ ?_
      · intro a_ w_ hk_
        have h15 : a_.eval (.tmp 15) = .pointer (some ⟨g15, 0, none⟩) := hk_.old 15 (by kernel_rfl)
        have hg_ : a_.eval (.tmp 72) = .bool true := hk_.got 34 72 _ (by kernel_rfl) rfl rfl
        have hy_ := hk_.want 34 _ 72 true rfl rfl hg_
        have hx_ := hk_.ext
        clear hk_
        exact flow_skip rfl hy_ (by decide) trivial
      refine allFrom_cons ?_ ?_
      · intro a_ w_ hk_
        have hg_ : a_.eval (.tmp 72) = .bool true := hk_.got 34 72 _ (by kernel_rfl) rfl rfl
        have hy_ := hk_.want 34 _ 72 true rfl rfl hg_
        have hx_ := hk_.ext
        clear hk_
        exact flow_skip rfl hy_ (by decide) trivial
      refine allFrom_cons ?_ ?_
      · intro a_ w_ hk_
        have h18 : a_.eval (.tmp 18) = .pointer (some ⟨g18, 0, none⟩) := hk_.old 18 (by kernel_rfl)
        have hg_ : a_.eval (.tmp 72) = .bool true := hk_.got 34 72 _ (by kernel_rfl) rfl rfl
        have hy_ := hk_.want 34 _ 72 true rfl rfl hg_
        have hx_ := hk_.ext
        clear hk_
        exact flow_skip rfl hy_ (by decide) trivial
      refine allFrom_cons ?_ ?_
      · intro a_ w_ hk_
        have hg_ : a_.eval (.tmp 72) = .bool true := hk_.got 34 72 _ (by kernel_rfl) rfl rfl
        have hy_ := hk_.want 34 _ 72 true rfl rfl hg_
        have hx_ := hk_.ext
        clear hk_
        exact flow_skip rfl hy_ (by decide) trivial
      refine allFrom_cons ?_ ?_
      · intro a_ w_ hk_
        have hg_ : a_.eval (.tmp 72) = .bool true := hk_.got 34 72 _ (by kernel_rfl) rfl rfl
        have hy_ := hk_.want 34 _ 72 true rfl rfl hg_
        have hx_ := hk_.ext
        clear hk_
        exact flow_skip rfl hy_ (by decide) trivial
      refine allFrom_cons ?_ ?_
      · intro a_ w_ hk_
        have h72 : a_.eval (.tmp 72) = (.bool true) := hk_.got 34 72 _ (by kernel_rfl) rfl rfl
        have hx_ := hk_.ext
        clear hk_
        refine flow_plain rfl ?_
        exact gives_pick rfl h72 ⟨Below.refl _ _, rfl⟩
      exact allFrom_nil
    intro f_ w_ hx_ hf_
    have h38 : f_ 38 = (.pointer (some ⟨w.heap.size, 0, none⟩)) := hf_ 0 38 _ (by decide) rfl rfl
    have h39 : f_ 39 = (.int .u64 (m : Int)) := hf_ 1 39 _ (by decide) rfl rfl
    have h40 : f_ 40 = (.pointer (some ⟨w.heap.size + 1, 0, none⟩)) := hf_ 2 40 _ (by decide) rfl rfl
    have h41 : f_ 41 = (.int .u64 (m : Int)) := hf_ 3 41 _ (by decide) rfl rfl
    have h42 : f_ 42 = (.bool false) := hf_ 4 42 _ (by decide) rfl rfl
    have h43 : f_ 43 = (.bool false) := hf_ 5 43 _ (by decide) rfl rfl
    have h44 : f_ 44 = (.pointer (some ⟨w.heap.size, 1, none⟩)) := hf_ 6 44 _ (by decide) rfl rfl
    have h45 : f_ 45 = (.agg (a.map cb).toArray) := hf_ 7 45 _ (by decide) rfl rfl
    have h46 : f_ 46 = (.pointer (some ⟨w.heap.size + 1, 1, none⟩)) := hf_ 8 46 _ (by decide) rfl rfl
    have h47 : f_ 47 = (.agg (b.map cb).toArray) := hf_ 9 47 _ (by decide) rfl rfl
    have h48 : f_ 48 = (.bool false) := hf_ 10 48 _ (by decide) rfl rfl
    have h49 : f_ 49 = (.bool false) := hf_ 11 49 _ (by decide) rfl rfl
    have h50 : f_ 50 = (.bool false) := hf_ 12 50 _ (by decide) rfl rfl
    have h51 : f_ 51 = (.int .i64 0) := hf_ 13 51 _ (by decide) rfl rfl
    have h52 : f_ 52 = (.bool false) := hf_ 14 52 _ (by decide) rfl rfl
    have h53 : f_ 53 = (.bool false) := hf_ 15 53 _ (by decide) rfl rfl
    have h54 : f_ 54 = (.bool false) := hf_ 16 54 _ (by decide) rfl rfl
    have h55 : f_ 55 = (.int .i64 0) := hf_ 17 55 _ (by decide) rfl rfl
    have h56 : f_ 56 = (.bool false) := hf_ 18 56 _ (by decide) rfl rfl
    have h57 : f_ 57 = (.bool false) := hf_ 19 57 _ (by decide) rfl rfl
    have h58 : f_ 58 = (.bool false) := hf_ 20 58 _ (by decide) rfl rfl
    have h59 : f_ 59 = (.pointer (some ⟨g15, 0, none⟩)) := hf_ 21 59 _ (by decide) rfl rfl
    have h60 : f_ 60 = (.agg (X1.map cb).toArray) := hf_ 22 60 _ (by decide) rfl rfl
    have h61 : f_ 61 = (.pointer (some ⟨w.heap.size, 1, none⟩)) := hf_ 23 61 _ (by decide) rfl rfl
    have h62 : f_ 62 = (.agg (a.map cb).toArray) := hf_ 24 62 _ (by decide) rfl rfl
    have h63 : f_ 63 = (.bool false) := hf_ 25 63 _ (by decide) rfl rfl
    have h64 : f_ 64 = (.bool false) := hf_ 26 64 _ (by decide) rfl rfl
    have h65 : f_ 65 = (.bool false) := hf_ 27 65 _ (by decide) rfl rfl
    have h66 : f_ 66 = (.pointer (some ⟨g18, 0, none⟩)) := hf_ 28 66 _ (by decide) rfl rfl
    have h67 : f_ 67 = (.agg (X2.map cb).toArray) := hf_ 29 67 _ (by decide) rfl rfl
    have h68 : f_ 68 = (.pointer (some ⟨w.heap.size + 1, 1, none⟩)) := hf_ 30 68 _ (by decide) rfl rfl
    have h69 : f_ 69 = (.agg (b.map cb).toArray) := hf_ 31 69 _ (by decide) rfl rfl
    have h70 : f_ 70 = (.bool true) := hf_ 32 70 _ (by decide) rfl rfl
    have h71 : f_ 71 = (.bool true) := hf_ 33 71 _ (by decide) rfl rfl
    have h72 : f_ 72 = (.bool true) := hf_ 34 72 _ (by decide) rfl rfl
    have h78 : f_ 78 = (.bool true) := hf_ 40 78 _ (by decide) rfl rfl
    simp only [mix, h38, h39, h40, h41, h42, h43, h44, h45, h46, h47, h48, h49, h50, h51, h52, h53, h54, h55, h56, h57, h58, h59, h60, h61, h62, h63, h64, h65, h66, h67, h68, h69, h70, h71, h72, h78]
    clear h38 h39 h40 h41 h42 h43 h44 h45 h46 h47 h48 h49 h50 h51 h52 h53 h54 h55 h56 h57 h58 h59 h60 h61 h62 h63 h64 h65 h66 h67 h68 h69 h70 h71 h72 h78
    clear hf_
    have hzf := hz8.below hx_ hz8.lt
    have hbf := bx_trans hb08 hx_
    clear hx_
    go_wp2_with (first
      | ((with_reducible refine wpAtC ?_); refine wpList_gives rfl (gives_build (S := fun v w' => v = .agg #[nilC, nilC] ∧ w' = _) tCl #[] rfl [] (by simp) bltClN ⟨rfl, rfl⟩) ?_; rintro v12 w12 ⟨rfl, rfl⟩; simp only [Act.put, List.setIfInBounds_toArray, List.set_cons_succ, List.set_cons_zero])
      | ((with_reducible refine wpAtC ?_); refine wpList_store_agg rfl _ _ _ rfl _ _ rfl #[nilC, nilC] rfl (aggCl _ _) hzf (Nat.le_refl _) (by intro v hv; simp at hv; rcases hv with rfl | rfl <;> rfl) ?_; intro w13 hp13; simp only [Act.put]))
    exact bodyPost_ret (results_h2 (cs := [nilC, nilC]) rfl rfl (aggCl _ _) (blk_cells hp13.blk)) rfl ⟨bx_put hbf hp13 hg12w, .inl ⟨.inl (by rw [HG.out]; rintro ⟨k1, k2, k3, k4, k5, k6⟩; exact H5'.out k5), rfl⟩⟩
  rw [show (X2 == b) = true by simpa using h5] at heq3
  have H5' := hid h5
  clear h5
  by_cases h6 : Y1 = Y2
  rotate_left
  · have H6' := hid h6
    rw [show (Y1 == Y2) = false by simpa using h6] at heq4
    clear h6
    refine wp_region_lit ?_
    refine wp_flowSE [0, 1, 3, 7, 15, 31, 63, 127, 255, 511, 1023, 2047, 4095, 8191, 16383, 32767, 65535, 131071, 262143, 524287, 1048575, 2097151, 4194303, 8388607, 16777215, 33554431, 67108863, 134217727, 268435455, 536870911, 1073741823, 2147483647, 4294967295, 8589934591, 17179869183, 34359738367, 68719476735, 137438953471, 274877906943, 549755813887, 1099511627775] 41 [false, false, false, false, false, false, false, false, false, false, false, false, false, false, false, false, false, false, false, false, false, false, false, false, false, false, false, false, false, false, false, false, false, false, false, false, false, false, true, true, true, true, true, true, true, true, true, true, true, true, true, true, true, true, true, true, true, true, true, true, true, true, true, true, true, true, true, true, true, true, true, true, true, true, true, true, true, true, true] (by kernel_rfl) (by kernel_rfl) (by kernel_rfl) [FP.eq (.pointer (some ⟨w.heap.size, 0, none⟩)), FP.eq (.int .u64 (m : Int)), FP.eq (.pointer (some ⟨w.heap.size + 1, 0, none⟩)), FP.eq (.int .u64 (m : Int)), FP.eq (.bool false), FP.eq (.bool false), FP.eq (.pointer (some ⟨w.heap.size, 1, none⟩)), FP.eq (.agg (a.map cb).toArray), FP.eq (.pointer (some ⟨w.heap.size + 1, 1, none⟩)), FP.eq (.agg (b.map cb).toArray), FP.eq (.bool false), FP.eq (.bool false), FP.eq (.bool false), FP.eq (.int .i64 0), FP.eq (.bool false), FP.eq (.bool false), FP.eq (.bool false), FP.eq (.int .i64 0), FP.eq (.bool false), FP.eq (.bool false), FP.eq (.bool false), FP.eq (.pointer (some ⟨g15, 0, none⟩)), FP.eq (.agg (X1.map cb).toArray), FP.eq (.pointer (some ⟨w.heap.size, 1, none⟩)), FP.eq (.agg (a.map cb).toArray), FP.eq (.bool false), FP.eq (.bool false), FP.eq (.bool false), FP.eq (.pointer (some ⟨g18, 0, none⟩)), FP.eq (.agg (X2.map cb).toArray), FP.eq (.pointer (some ⟨w.heap.size + 1, 1, none⟩)), FP.eq (.agg (b.map cb).toArray), FP.eq (.bool false), FP.eq (.bool false), FP.eq (.bool false), FP.eq (.pointer (some ⟨g15, 32, none⟩)), FP.eq (.agg (Y1.map cb).toArray), FP.eq (.pointer (some ⟨g18, 32, none⟩)), FP.eq (.agg (Y2.map cb).toArray), FP.eq (.bool true), FP.eq (.bool true)] ?_ ?_
    · refine allFrom_cons ?_ ?_
      · intro a_ w_ hk_
        have h7 : a_.eval (.tmp 7) = .pointer (some ⟨w.heap.size, 0, none⟩) := hk_.old 7 (by kernel_rfl)
        have hx_ := hk_.ext
        clear hk_
        refine flow_plain rfl ?_
        unfold gives
        have hc_ : ∀ v, a_.eval (.const v) = v := fun _ => rfl
        have hn_ : ∀ f, a_.eval (.func f) = .func (.func f) #[] #[] := fun _ => rfl
        generalize a_.eval = ρ_ at *
        go_simp
        exact ⟨Below.refl _ _, rfl⟩
      refine allFrom_cons ?_ ?_
      · intro a_ w_ hk_
        have h38 : a_.eval (.tmp 38) = (.pointer (some ⟨w.heap.size, 0, none⟩)) := hk_.got 0 38 _ (by kernel_rfl) rfl rfl
        have hx_ := hk_.ext
        clear hk_
        refine flow_plain rfl ?_
        unfold gives
        have hc_ : ∀ v, a_.eval (.const v) = v := fun _ => rfl
        have hn_ : ∀ f, a_.eval (.func f) = .func (.func f) #[] #[] := fun _ => rfl
        have hcell := (hx_.cell (p := ⟨w.heap.size, 0, none⟩) hlA).trans csA
        generalize a_.eval = ρ_ at *
        go_simp
        exact ⟨Below.refl _ _, rfl⟩
      refine allFrom_cons ?_ ?_
      · intro a_ w_ hk_
        have h8 : a_.eval (.tmp 8) = .pointer (some ⟨w.heap.size + 1, 0, none⟩) := hk_.old 8 (by kernel_rfl)
        have hx_ := hk_.ext
        clear hk_
        refine flow_plain rfl ?_
        unfold gives
        have hc_ : ∀ v, a_.eval (.const v) = v := fun _ => rfl
        have hn_ : ∀ f, a_.eval (.func f) = .func (.func f) #[] #[] := fun _ => rfl
        generalize a_.eval = ρ_ at *
        go_simp
        exact ⟨Below.refl _ _, rfl⟩
      refine allFrom_cons ?_ ?_
      · intro a_ w_ hk_
        have h40 : a_.eval (.tmp 40) = (.pointer (some ⟨w.heap.size + 1, 0, none⟩)) := hk_.got 2 40 _ (by kernel_rfl) rfl rfl
        have hx_ := hk_.ext
        clear hk_
        refine flow_plain rfl ?_
        unfold gives
        have hc_ : ∀ v, a_.eval (.const v) = v := fun _ => rfl
        have hn_ : ∀ f, a_.eval (.func f) = .func (.func f) #[] #[] := fun _ => rfl
        have hcell := (hx_.cell (p := ⟨w.heap.size + 1, 0, none⟩) hlB).trans csB
        generalize a_.eval = ρ_ at *
        go_simp
        exact ⟨Below.refl _ _, rfl⟩
      refine allFrom_cons ?_ ?_
      · intro a_ w_ hk_
        have h39 : a_.eval (.tmp 39) = (.int .u64 (m : Int)) := hk_.got 1 39 _ (by kernel_rfl) rfl rfl
        have h41 : a_.eval (.tmp 41) = (.int .u64 (m : Int)) := hk_.got 3 41 _ (by kernel_rfl) rfl rfl
        have hx_ := hk_.ext
        clear hk_
        refine flow_plain rfl ?_
        unfold gives
        have hc_ : ∀ v, a_.eval (.const v) = v := fun _ => rfl
        have hn_ : ∀ f, a_.eval (.func f) = .func (.func f) #[] #[] := fun _ => rfl
        generalize a_.eval = ρ_ at *
        go_simp
        exact ⟨Below.refl _ _, rfl⟩
      refine allFrom_cons ?_ ?_
      · intro a_ w_ hk_
        have h42 : a_.eval (.tmp 42) = (.bool false) := hk_.got 4 42 _ (by kernel_rfl) rfl rfl
        have hx_ := hk_.ext
        clear hk_
        refine flow_plain rfl ?_
        exact gives_move rfl ⟨Below.refl _ _, h42⟩
      refine allFrom_cons ?_ ?_
      · intro a_ w_ hk_
        have h7 : a_.eval (.tmp 7) = .pointer (some ⟨w.heap.size, 0, none⟩) := hk_.old 7 (by kernel_rfl)
        have hg_ : a_.eval (.tmp 43) = .bool false := hk_.got 5 43 _ (by kernel_rfl) rfl rfl
        have hy_ := hk_.want 5 _ 43 false rfl rfl hg_
        have hx_ := hk_.ext
        clear hk_
        refine flow_want rfl hy_ ?_
        unfold gives
        have hc_ : ∀ v, a_.eval (.const v) = v := fun _ => rfl
        have hn_ : ∀ f, a_.eval (.func f) = .func (.func f) #[] #[] := fun _ => rfl
        clear hy_ hg_
        generalize a_.eval = ρ_ at *
        go_simp
        exact ⟨Below.refl _ _, rfl⟩
      refine allFrom_cons ?_ ?_
      · intro a_ w_ hk_
        have h44 : a_.eval (.tmp 44) = (.pointer (some ⟨w.heap.size, 1, none⟩)) := hk_.got 6 44 _ (by kernel_rfl) rfl rfl
        have hg_ : a_.eval (.tmp 43) = .bool false := hk_.got 5 43 _ (by kernel_rfl) rfl rfl
        have hy_ := hk_.want 5 _ 43 false rfl rfl hg_
        have hx_ := hk_.ext
        clear hk_
        refine flow_want rfl hy_ ?_
        exact gives_ldC rfl h44 (aggHL ha) (fun j v hv => (hx_.cell (p := ⟨_, _, none⟩) hlA).trans (ca j v hv)) ⟨Below.refl _ _, rfl⟩
      refine allFrom_cons ?_ ?_
      · intro a_ w_ hk_
        have h8 : a_.eval (.tmp 8) = .pointer (some ⟨w.heap.size + 1, 0, none⟩) := hk_.old 8 (by kernel_rfl)
        have hg_ : a_.eval (.tmp 43) = .bool false := hk_.got 5 43 _ (by kernel_rfl) rfl rfl
        have hy_ := hk_.want 5 _ 43 false rfl rfl hg_
        have hx_ := hk_.ext
        clear hk_
        refine flow_want rfl hy_ ?_
        unfold gives
        have hc_ : ∀ v, a_.eval (.const v) = v := fun _ => rfl
        have hn_ : ∀ f, a_.eval (.func f) = .func (.func f) #[] #[] := fun _ => rfl
        clear hy_ hg_
        generalize a_.eval = ρ_ at *
        go_simp
        exact ⟨Below.refl _ _, rfl⟩
      refine allFrom_cons ?_ ?_
      · intro a_ w_ hk_
        have h46 : a_.eval (.tmp 46) = (.pointer (some ⟨w.heap.size + 1, 1, none⟩)) := hk_.got 8 46 _ (by kernel_rfl) rfl rfl
        have hg_ : a_.eval (.tmp 43) = .bool false := hk_.got 5 43 _ (by kernel_rfl) rfl rfl
        have hy_ := hk_.want 5 _ 43 false rfl rfl hg_
        have hx_ := hk_.ext
        clear hk_
        refine flow_want rfl hy_ ?_
        exact gives_ldC rfl h46 (aggHL hb) (fun j v hv => (hx_.cell (p := ⟨_, _, none⟩) hlB).trans (cbb j v hv)) ⟨Below.refl _ _, rfl⟩
      refine allFrom_cons ?_ ?_
      · intro a_ w_ hk_
        have h45 : a_.eval (.tmp 45) = (.agg (a.map cb).toArray) := hk_.got 7 45 _ (by kernel_rfl) rfl rfl
        have h47 : a_.eval (.tmp 47) = (.agg (b.map cb).toArray) := hk_.got 9 47 _ (by kernel_rfl) rfl rfl
        have hg_ : a_.eval (.tmp 43) = .bool false := hk_.got 5 43 _ (by kernel_rfl) rfl rfl
        have hy_ := hk_.want 5 _ 43 false rfl rfl hg_
        have hx_ := hk_.ext
        clear hk_
        refine flow_want rfl hy_ ?_
        unfold gives
        have hc_ : ∀ v, a_.eval (.const v) = v := fun _ => rfl
        have hn_ : ∀ f, a_.eval (.func f) = .func (.func f) #[] #[] := fun _ => rfl
        clear hy_ hg_
        generalize a_.eval = ρ_ at *
        go_simp
        exact ⟨Below.refl _ _, rfl⟩
      refine allFrom_cons ?_ ?_
      · intro a_ w_ hk_
        have h43 : a_.eval (.tmp 43) = (.bool false) := hk_.got 5 43 _ (by kernel_rfl) rfl rfl
        have h48 : a_.eval (.tmp 48) = (.bool false) := hk_.got 10 48 _ (by kernel_rfl) rfl rfl
        have hx_ := hk_.ext
        clear hk_
        refine flow_plain rfl ?_
        exact gives_pick rfl h43 ⟨Below.refl _ _, h48⟩
      refine allFrom_cons ?_ ?_
      · intro a_ w_ hk_
        have h49 : a_.eval (.tmp 49) = (.bool false) := hk_.got 11 49 _ (by kernel_rfl) rfl rfl
        have hx_ := hk_.ext
        clear hk_
        refine flow_plain rfl ?_
        exact gives_move rfl ⟨Below.refl _ _, h49⟩
      refine allFrom_cons ?_ ?_
      · intro a_ w_ hk_
        have h16 : a_.eval (.tmp 16) = .int .i64 0 := hk_.old 16 (by kernel_rfl)
        have hg_ : a_.eval (.tmp 50) = .bool false := hk_.got 12 50 _ (by kernel_rfl) rfl rfl
        have hy_ := hk_.want 12 _ 50 false rfl rfl hg_
        have hx_ := hk_.ext
        clear hk_
        refine flow_want rfl hy_ ?_
        exact gives_move rfl ⟨Below.refl _ _, h16⟩
      refine allFrom_cons ?_ ?_
      · intro a_ w_ hk_
        have h51 : a_.eval (.tmp 51) = (.int .i64 0) := hk_.got 13 51 _ (by kernel_rfl) rfl rfl
        have hg_ : a_.eval (.tmp 50) = .bool false := hk_.got 12 50 _ (by kernel_rfl) rfl rfl
        have hy_ := hk_.want 12 _ 50 false rfl rfl hg_
        have hx_ := hk_.ext
        clear hk_
        refine flow_want rfl hy_ ?_
        unfold gives
        have hc_ : ∀ v, a_.eval (.const v) = v := fun _ => rfl
        have hn_ : ∀ f, a_.eval (.func f) = .func (.func f) #[] #[] := fun _ => rfl
        clear hy_ hg_
        generalize a_.eval = ρ_ at *
        go_simp
        exact ⟨Below.refl _ _, rfl⟩
      refine allFrom_cons ?_ ?_
      · intro a_ w_ hk_
        have h50 : a_.eval (.tmp 50) = (.bool false) := hk_.got 12 50 _ (by kernel_rfl) rfl rfl
        have h52 : a_.eval (.tmp 52) = (.bool false) := hk_.got 14 52 _ (by kernel_rfl) rfl rfl
        have hx_ := hk_.ext
        clear hk_
        refine flow_plain rfl ?_
        exact gives_pick rfl h50 ⟨Below.refl _ _, h52⟩
      refine allFrom_cons ?_ ?_
      · intro a_ w_ hk_
        have h53 : a_.eval (.tmp 53) = (.bool false) := hk_.got 15 53 _ (by kernel_rfl) rfl rfl
        have hx_ := hk_.ext
        clear hk_
        refine flow_plain rfl ?_
        exact gives_move rfl ⟨Below.refl _ _, h53⟩
      refine allFrom_cons ?_ ?_
      · intro a_ w_ hk_
        have h19 : a_.eval (.tmp 19) = .int .i64 0 := hk_.old 19 (by kernel_rfl)
        have hg_ : a_.eval (.tmp 54) = .bool false := hk_.got 16 54 _ (by kernel_rfl) rfl rfl
        have hy_ := hk_.want 16 _ 54 false rfl rfl hg_
        have hx_ := hk_.ext
        clear hk_
        refine flow_want rfl hy_ ?_
        exact gives_move rfl ⟨Below.refl _ _, h19⟩
      refine allFrom_cons ?_ ?_
      · intro a_ w_ hk_
        have h55 : a_.eval (.tmp 55) = (.int .i64 0) := hk_.got 17 55 _ (by kernel_rfl) rfl rfl
        have hg_ : a_.eval (.tmp 54) = .bool false := hk_.got 16 54 _ (by kernel_rfl) rfl rfl
        have hy_ := hk_.want 16 _ 54 false rfl rfl hg_
        have hx_ := hk_.ext
        clear hk_
        refine flow_want rfl hy_ ?_
        unfold gives
        have hc_ : ∀ v, a_.eval (.const v) = v := fun _ => rfl
        have hn_ : ∀ f, a_.eval (.func f) = .func (.func f) #[] #[] := fun _ => rfl
        clear hy_ hg_
        generalize a_.eval = ρ_ at *
        go_simp
        exact ⟨Below.refl _ _, rfl⟩
      refine allFrom_cons ?_ ?_
      · intro a_ w_ hk_
        have h54 : a_.eval (.tmp 54) = (.bool false) := hk_.got 16 54 _ (by kernel_rfl) rfl rfl
        have h56 : a_.eval (.tmp 56) = (.bool false) := hk_.got 18 56 _ (by kernel_rfl) rfl rfl
        have hx_ := hk_.ext
        clear hk_
        refine flow_plain rfl ?_
        exact gives_pick rfl h54 ⟨Below.refl _ _, h56⟩
      refine allFrom_cons ?_ ?_
      · intro a_ w_ hk_
        have h57 : a_.eval (.tmp 57) = (.bool false) := hk_.got 19 57 _ (by kernel_rfl) rfl rfl
        have hx_ := hk_.ext
        clear hk_
        refine flow_plain rfl ?_
        exact gives_move rfl ⟨Below.refl _ _, h57⟩
      refine allFrom_cons ?_ ?_
      · intro a_ w_ hk_
        have h15 : a_.eval (.tmp 15) = .pointer (some ⟨g15, 0, none⟩) := hk_.old 15 (by kernel_rfl)
        have hg_ : a_.eval (.tmp 58) = .bool false := hk_.got 20 58 _ (by kernel_rfl) rfl rfl
        have hy_ := hk_.want 20 _ 58 false rfl rfl hg_
        have hx_ := hk_.ext
        clear hk_
        refine flow_want rfl hy_ ?_
        unfold gives
        have hc_ : ∀ v, a_.eval (.const v) = v := fun _ => rfl
        have hn_ : ∀ f, a_.eval (.func f) = .func (.func f) #[] #[] := fun _ => rfl
        clear hy_ hg_
        generalize a_.eval = ρ_ at *
        go_simp
        exact ⟨Below.refl _ _, rfl⟩
      refine allFrom_cons ?_ ?_
      · intro a_ w_ hk_
        have h59 : a_.eval (.tmp 59) = (.pointer (some ⟨g15, 0, none⟩)) := hk_.got 21 59 _ (by kernel_rfl) rfl rfl
        have hg_ : a_.eval (.tmp 58) = .bool false := hk_.got 20 58 _ (by kernel_rfl) rfl rfl
        have hy_ := hk_.want 20 _ 58 false rfl rfl hg_
        have hx_ := hk_.ext
        clear hk_
        refine flow_want rfl hy_ ?_
        exact gives_ldC rfl h59 (aggHL hX1) (fun j v hv => (hx_.cell (p := ⟨_, _, none⟩) hl15).trans (cx1 j v hv)) ⟨Below.refl _ _, rfl⟩
      refine allFrom_cons ?_ ?_
      · intro a_ w_ hk_
        have h7 : a_.eval (.tmp 7) = .pointer (some ⟨w.heap.size, 0, none⟩) := hk_.old 7 (by kernel_rfl)
        have hg_ : a_.eval (.tmp 58) = .bool false := hk_.got 20 58 _ (by kernel_rfl) rfl rfl
        have hy_ := hk_.want 20 _ 58 false rfl rfl hg_
        have hx_ := hk_.ext
        clear hk_
        refine flow_want rfl hy_ ?_
        unfold gives
        have hc_ : ∀ v, a_.eval (.const v) = v := fun _ => rfl
        have hn_ : ∀ f, a_.eval (.func f) = .func (.func f) #[] #[] := fun _ => rfl
        clear hy_ hg_
        generalize a_.eval = ρ_ at *
        go_simp
        exact ⟨Below.refl _ _, rfl⟩
      refine allFrom_cons ?_ ?_
      · intro a_ w_ hk_
        have h61 : a_.eval (.tmp 61) = (.pointer (some ⟨w.heap.size, 1, none⟩)) := hk_.got 23 61 _ (by kernel_rfl) rfl rfl
        have hg_ : a_.eval (.tmp 58) = .bool false := hk_.got 20 58 _ (by kernel_rfl) rfl rfl
        have hy_ := hk_.want 20 _ 58 false rfl rfl hg_
        have hx_ := hk_.ext
        clear hk_
        refine flow_want rfl hy_ ?_
        exact gives_ldC rfl h61 (aggHL ha) (fun j v hv => (hx_.cell (p := ⟨_, _, none⟩) hlA).trans (ca j v hv)) ⟨Below.refl _ _, rfl⟩
      refine allFrom_cons ?_ ?_
      · intro a_ w_ hk_
        have h60 : a_.eval (.tmp 60) = (.agg (X1.map cb).toArray) := hk_.got 22 60 _ (by kernel_rfl) rfl rfl
        have h62 : a_.eval (.tmp 62) = (.agg (a.map cb).toArray) := hk_.got 24 62 _ (by kernel_rfl) rfl rfl
        have hg_ : a_.eval (.tmp 58) = .bool false := hk_.got 20 58 _ (by kernel_rfl) rfl rfl
        have hy_ := hk_.want 20 _ 58 false rfl rfl hg_
        have hx_ := hk_.ext
        clear hk_
        refine flow_want rfl hy_ ?_
        unfold gives
        have hc_ : ∀ v, a_.eval (.const v) = v := fun _ => rfl
        have hn_ : ∀ f, a_.eval (.func f) = .func (.func f) #[] #[] := fun _ => rfl
        clear hy_ hg_
        generalize a_.eval = ρ_ at *
        go_simp
        exact ⟨Below.refl _ _, rfl⟩
      refine allFrom_cons ?_ ?_
      · intro a_ w_ hk_
        have h58 : a_.eval (.tmp 58) = (.bool false) := hk_.got 20 58 _ (by kernel_rfl) rfl rfl
        have h63 : a_.eval (.tmp 63) = (.bool false) := hk_.got 25 63 _ (by kernel_rfl) rfl rfl
        have hx_ := hk_.ext
        clear hk_
        refine flow_plain rfl ?_
        exact gives_pick rfl h58 ⟨Below.refl _ _, h63⟩
      refine allFrom_cons ?_ ?_
      · intro a_ w_ hk_
        have h64 : a_.eval (.tmp 64) = (.bool false) := hk_.got 26 64 _ (by kernel_rfl) rfl rfl
        have hx_ := hk_.ext
        clear hk_
        refine flow_plain rfl ?_
        exact gives_move rfl ⟨Below.refl _ _, h64⟩
      refine allFrom_cons ?_ ?_
      · intro a_ w_ hk_
        have h18 : a_.eval (.tmp 18) = .pointer (some ⟨g18, 0, none⟩) := hk_.old 18 (by kernel_rfl)
        have hg_ : a_.eval (.tmp 65) = .bool false := hk_.got 27 65 _ (by kernel_rfl) rfl rfl
        have hy_ := hk_.want 27 _ 65 false rfl rfl hg_
        have hx_ := hk_.ext
        clear hk_
        refine flow_want rfl hy_ ?_
        unfold gives
        have hc_ : ∀ v, a_.eval (.const v) = v := fun _ => rfl
        have hn_ : ∀ f, a_.eval (.func f) = .func (.func f) #[] #[] := fun _ => rfl
        clear hy_ hg_
        generalize a_.eval = ρ_ at *
        go_simp
        exact ⟨Below.refl _ _, rfl⟩
      refine allFrom_cons ?_ ?_
      · intro a_ w_ hk_
        have h66 : a_.eval (.tmp 66) = (.pointer (some ⟨g18, 0, none⟩)) := hk_.got 28 66 _ (by kernel_rfl) rfl rfl
        have hg_ : a_.eval (.tmp 65) = .bool false := hk_.got 27 65 _ (by kernel_rfl) rfl rfl
        have hy_ := hk_.want 27 _ 65 false rfl rfl hg_
        have hx_ := hk_.ext
        clear hk_
        refine flow_want rfl hy_ ?_
        exact gives_ldC rfl h66 (aggHL hX2) (fun j v hv => (hx_.cell (p := ⟨_, _, none⟩) hl18).trans (cx2 j v hv)) ⟨Below.refl _ _, rfl⟩
      refine allFrom_cons ?_ ?_
      · intro a_ w_ hk_
        have h8 : a_.eval (.tmp 8) = .pointer (some ⟨w.heap.size + 1, 0, none⟩) := hk_.old 8 (by kernel_rfl)
        have hg_ : a_.eval (.tmp 65) = .bool false := hk_.got 27 65 _ (by kernel_rfl) rfl rfl
        have hy_ := hk_.want 27 _ 65 false rfl rfl hg_
        have hx_ := hk_.ext
        clear hk_
        refine flow_want rfl hy_ ?_
        unfold gives
        have hc_ : ∀ v, a_.eval (.const v) = v := fun _ => rfl
        have hn_ : ∀ f, a_.eval (.func f) = .func (.func f) #[] #[] := fun _ => rfl
        clear hy_ hg_
        generalize a_.eval = ρ_ at *
        go_simp
        exact ⟨Below.refl _ _, rfl⟩
      refine allFrom_cons ?_ ?_
      · intro a_ w_ hk_
        have h68 : a_.eval (.tmp 68) = (.pointer (some ⟨w.heap.size + 1, 1, none⟩)) := hk_.got 30 68 _ (by kernel_rfl) rfl rfl
        have hg_ : a_.eval (.tmp 65) = .bool false := hk_.got 27 65 _ (by kernel_rfl) rfl rfl
        have hy_ := hk_.want 27 _ 65 false rfl rfl hg_
        have hx_ := hk_.ext
        clear hk_
        refine flow_want rfl hy_ ?_
        exact gives_ldC rfl h68 (aggHL hb) (fun j v hv => (hx_.cell (p := ⟨_, _, none⟩) hlB).trans (cbb j v hv)) ⟨Below.refl _ _, rfl⟩
      refine allFrom_cons ?_ ?_
      · intro a_ w_ hk_
        have h67 : a_.eval (.tmp 67) = (.agg (X2.map cb).toArray) := hk_.got 29 67 _ (by kernel_rfl) rfl rfl
        have h69 : a_.eval (.tmp 69) = (.agg (b.map cb).toArray) := hk_.got 31 69 _ (by kernel_rfl) rfl rfl
        have hg_ : a_.eval (.tmp 65) = .bool false := hk_.got 27 65 _ (by kernel_rfl) rfl rfl
        have hy_ := hk_.want 27 _ 65 false rfl rfl hg_
        have hx_ := hk_.ext
        clear hk_
        refine flow_want rfl hy_ ?_
        unfold gives
        have hc_ : ∀ v, a_.eval (.const v) = v := fun _ => rfl
        have hn_ : ∀ f, a_.eval (.func f) = .func (.func f) #[] #[] := fun _ => rfl
        clear hy_ hg_
        generalize a_.eval = ρ_ at *
        go_simp
        exact ⟨Below.refl _ _, rfl⟩
      refine allFrom_cons ?_ ?_
      · intro a_ w_ hk_
        have h65 : a_.eval (.tmp 65) = (.bool false) := hk_.got 27 65 _ (by kernel_rfl) rfl rfl
        have h70 : a_.eval (.tmp 70) = (.bool false) := hk_.got 32 70 _ (by kernel_rfl) rfl rfl
        have hx_ := hk_.ext
        clear hk_
        refine flow_plain rfl ?_
        exact gives_pick rfl h65 ⟨Below.refl _ _, h70⟩
      refine allFrom_cons ?_ ?_
      · intro a_ w_ hk_
        have h71 : a_.eval (.tmp 71) = (.bool false) := hk_.got 33 71 _ (by kernel_rfl) rfl rfl
        have hx_ := hk_.ext
        clear hk_
        refine flow_plain rfl ?_
        exact gives_move rfl ⟨Below.refl _ _, h71⟩
      refine allFrom_cons ?_ ?_
      · intro a_ w_ hk_
        have h15 : a_.eval (.tmp 15) = .pointer (some ⟨g15, 0, none⟩) := hk_.old 15 (by kernel_rfl)
        have hg_ : a_.eval (.tmp 72) = .bool false := hk_.got 34 72 _ (by kernel_rfl) rfl rfl
        have hy_ := hk_.want 34 _ 72 false rfl rfl hg_
        have hx_ := hk_.ext
        clear hk_
        refine flow_want rfl hy_ ?_
        unfold gives
        have hc_ : ∀ v, a_.eval (.const v) = v := fun _ => rfl
        have hn_ : ∀ f, a_.eval (.func f) = .func (.func f) #[] #[] := fun _ => rfl
        clear hy_ hg_
        generalize a_.eval = ρ_ at *
        go_simp
        exact ⟨Below.refl _ _, rfl⟩
      refine allFrom_cons ?_ ?_
      · intro a_ w_ hk_
        have h73 : a_.eval (.tmp 73) = (.pointer (some ⟨g15, 32, none⟩)) := hk_.got 35 73 _ (by kernel_rfl) rfl rfl
        have hg_ : a_.eval (.tmp 72) = .bool false := hk_.got 34 72 _ (by kernel_rfl) rfl rfl
        have hy_ := hk_.want 34 _ 72 false rfl rfl hg_
        have hx_ := hk_.ext
        clear hk_
        refine flow_want rfl hy_ ?_
        exact gives_ldC rfl h73 (aggHL hY1) (fun j v hv => (hx_.cell (p := ⟨_, _, none⟩) hl15).trans (cy1 j v hv)) ⟨Below.refl _ _, rfl⟩
      refine allFrom_cons ?_ ?_
      · intro a_ w_ hk_
        have h18 : a_.eval (.tmp 18) = .pointer (some ⟨g18, 0, none⟩) := hk_.old 18 (by kernel_rfl)
        have hg_ : a_.eval (.tmp 72) = .bool false := hk_.got 34 72 _ (by kernel_rfl) rfl rfl
        have hy_ := hk_.want 34 _ 72 false rfl rfl hg_
        have hx_ := hk_.ext
        clear hk_
        refine flow_want rfl hy_ ?_
        unfold gives
        have hc_ : ∀ v, a_.eval (.const v) = v := fun _ => rfl
        have hn_ : ∀ f, a_.eval (.func f) = .func (.func f) #[] #[] := fun _ => rfl
        clear hy_ hg_
        generalize a_.eval = ρ_ at *
        go_simp
        exact ⟨Below.refl _ _, rfl⟩
      refine allFrom_cons ?_ ?_
      · intro a_ w_ hk_
        have h75 : a_.eval (.tmp 75) = (.pointer (some ⟨g18, 32, none⟩)) := hk_.got 37 75 _ (by kernel_rfl) rfl rfl
        have hg_ : a_.eval (.tmp 72) = .bool false := hk_.got 34 72 _ (by kernel_rfl) rfl rfl
        have hy_ := hk_.want 34 _ 72 false rfl rfl hg_
        have hx_ := hk_.ext
        clear hk_
        refine flow_want rfl hy_ ?_
        exact gives_ldC rfl h75 (aggHL hY2) (fun j v hv => (hx_.cell (p := ⟨_, _, none⟩) hl18).trans (cy2 j v hv)) ⟨Below.refl _ _, rfl⟩
      refine allFrom_cons ?_ ?_
      · intro a_ w_ hk_
        have h74 : a_.eval (.tmp 74) = (.agg (Y1.map cb).toArray) := hk_.got 36 74 _ (by kernel_rfl) rfl rfl
        have h76 : a_.eval (.tmp 76) = (.agg (Y2.map cb).toArray) := hk_.got 38 76 _ (by kernel_rfl) rfl rfl
        have hg_ : a_.eval (.tmp 72) = .bool false := hk_.got 34 72 _ (by kernel_rfl) rfl rfl
        have hy_ := hk_.want 34 _ 72 false rfl rfl hg_
        have hx_ := hk_.ext
        clear hk_
        refine flow_want rfl hy_ ?_
        unfold gives
        have hc_ : ∀ v, a_.eval (.const v) = v := fun _ => rfl
        have hn_ : ∀ f, a_.eval (.func f) = .func (.func f) #[] #[] := fun _ => rfl
        clear hy_ hg_
        generalize a_.eval = ρ_ at *
        go_simp
        exact ⟨Below.refl _ _, rfl⟩
      refine allFrom_cons ?_ ?_
      · intro a_ w_ hk_
        have h72 : a_.eval (.tmp 72) = (.bool false) := hk_.got 34 72 _ (by kernel_rfl) rfl rfl
        have h77 : a_.eval (.tmp 77) = (.bool true) := hk_.got 39 77 _ (by kernel_rfl) rfl rfl
        have hx_ := hk_.ext
        clear hk_
        refine flow_plain rfl ?_
        exact gives_pick rfl h72 ⟨Below.refl _ _, h77⟩
      exact allFrom_nil
    intro f_ w_ hx_ hf_
    have h38 : f_ 38 = (.pointer (some ⟨w.heap.size, 0, none⟩)) := hf_ 0 38 _ (by decide) rfl rfl
    have h39 : f_ 39 = (.int .u64 (m : Int)) := hf_ 1 39 _ (by decide) rfl rfl
    have h40 : f_ 40 = (.pointer (some ⟨w.heap.size + 1, 0, none⟩)) := hf_ 2 40 _ (by decide) rfl rfl
    have h41 : f_ 41 = (.int .u64 (m : Int)) := hf_ 3 41 _ (by decide) rfl rfl
    have h42 : f_ 42 = (.bool false) := hf_ 4 42 _ (by decide) rfl rfl
    have h43 : f_ 43 = (.bool false) := hf_ 5 43 _ (by decide) rfl rfl
    have h44 : f_ 44 = (.pointer (some ⟨w.heap.size, 1, none⟩)) := hf_ 6 44 _ (by decide) rfl rfl
    have h45 : f_ 45 = (.agg (a.map cb).toArray) := hf_ 7 45 _ (by decide) rfl rfl
    have h46 : f_ 46 = (.pointer (some ⟨w.heap.size + 1, 1, none⟩)) := hf_ 8 46 _ (by decide) rfl rfl
    have h47 : f_ 47 = (.agg (b.map cb).toArray) := hf_ 9 47 _ (by decide) rfl rfl
    have h48 : f_ 48 = (.bool false) := hf_ 10 48 _ (by decide) rfl rfl
    have h49 : f_ 49 = (.bool false) := hf_ 11 49 _ (by decide) rfl rfl
    have h50 : f_ 50 = (.bool false) := hf_ 12 50 _ (by decide) rfl rfl
    have h51 : f_ 51 = (.int .i64 0) := hf_ 13 51 _ (by decide) rfl rfl
    have h52 : f_ 52 = (.bool false) := hf_ 14 52 _ (by decide) rfl rfl
    have h53 : f_ 53 = (.bool false) := hf_ 15 53 _ (by decide) rfl rfl
    have h54 : f_ 54 = (.bool false) := hf_ 16 54 _ (by decide) rfl rfl
    have h55 : f_ 55 = (.int .i64 0) := hf_ 17 55 _ (by decide) rfl rfl
    have h56 : f_ 56 = (.bool false) := hf_ 18 56 _ (by decide) rfl rfl
    have h57 : f_ 57 = (.bool false) := hf_ 19 57 _ (by decide) rfl rfl
    have h58 : f_ 58 = (.bool false) := hf_ 20 58 _ (by decide) rfl rfl
    have h59 : f_ 59 = (.pointer (some ⟨g15, 0, none⟩)) := hf_ 21 59 _ (by decide) rfl rfl
    have h60 : f_ 60 = (.agg (X1.map cb).toArray) := hf_ 22 60 _ (by decide) rfl rfl
    have h61 : f_ 61 = (.pointer (some ⟨w.heap.size, 1, none⟩)) := hf_ 23 61 _ (by decide) rfl rfl
    have h62 : f_ 62 = (.agg (a.map cb).toArray) := hf_ 24 62 _ (by decide) rfl rfl
    have h63 : f_ 63 = (.bool false) := hf_ 25 63 _ (by decide) rfl rfl
    have h64 : f_ 64 = (.bool false) := hf_ 26 64 _ (by decide) rfl rfl
    have h65 : f_ 65 = (.bool false) := hf_ 27 65 _ (by decide) rfl rfl
    have h66 : f_ 66 = (.pointer (some ⟨g18, 0, none⟩)) := hf_ 28 66 _ (by decide) rfl rfl
    have h67 : f_ 67 = (.agg (X2.map cb).toArray) := hf_ 29 67 _ (by decide) rfl rfl
    have h68 : f_ 68 = (.pointer (some ⟨w.heap.size + 1, 1, none⟩)) := hf_ 30 68 _ (by decide) rfl rfl
    have h69 : f_ 69 = (.agg (b.map cb).toArray) := hf_ 31 69 _ (by decide) rfl rfl
    have h70 : f_ 70 = (.bool false) := hf_ 32 70 _ (by decide) rfl rfl
    have h71 : f_ 71 = (.bool false) := hf_ 33 71 _ (by decide) rfl rfl
    have h72 : f_ 72 = (.bool false) := hf_ 34 72 _ (by decide) rfl rfl
    have h73 : f_ 73 = (.pointer (some ⟨g15, 32, none⟩)) := hf_ 35 73 _ (by decide) rfl rfl
    have h74 : f_ 74 = (.agg (Y1.map cb).toArray) := hf_ 36 74 _ (by decide) rfl rfl
    have h75 : f_ 75 = (.pointer (some ⟨g18, 32, none⟩)) := hf_ 37 75 _ (by decide) rfl rfl
    have h76 : f_ 76 = (.agg (Y2.map cb).toArray) := hf_ 38 76 _ (by decide) rfl rfl
    have h77 : f_ 77 = (.bool true) := hf_ 39 77 _ (by decide) rfl rfl
    have h78 : f_ 78 = (.bool true) := hf_ 40 78 _ (by decide) rfl rfl
    simp only [mix, h38, h39, h40, h41, h42, h43, h44, h45, h46, h47, h48, h49, h50, h51, h52, h53, h54, h55, h56, h57, h58, h59, h60, h61, h62, h63, h64, h65, h66, h67, h68, h69, h70, h71, h72, h73, h74, h75, h76, h77, h78]
    clear h38 h39 h40 h41 h42 h43 h44 h45 h46 h47 h48 h49 h50 h51 h52 h53 h54 h55 h56 h57 h58 h59 h60 h61 h62 h63 h64 h65 h66 h67 h68 h69 h70 h71 h72 h73 h74 h75 h76 h77 h78
    clear hf_
    have hzf := hz8.below hx_ hz8.lt
    have hbf := bx_trans hb08 hx_
    clear hx_
    go_wp2_with (first
      | ((with_reducible refine wpAtC ?_); refine wpList_gives rfl (gives_build (S := fun v w' => v = .agg #[nilC, nilC] ∧ w' = _) tCl #[] rfl [] (by simp) bltClN ⟨rfl, rfl⟩) ?_; rintro v12 w12 ⟨rfl, rfl⟩; simp only [Act.put, List.setIfInBounds_toArray, List.set_cons_succ, List.set_cons_zero])
      | ((with_reducible refine wpAtC ?_); refine wpList_store_agg rfl _ _ _ rfl _ _ rfl #[nilC, nilC] rfl (aggCl _ _) hzf (Nat.le_refl _) (by intro v hv; simp at hv; rcases hv with rfl | rfl <;> rfl) ?_; intro w13 hp13; simp only [Act.put]))
    exact bodyPost_ret (results_h2 (cs := [nilC, nilC]) rfl rfl (aggCl _ _) (blk_cells hp13.blk)) rfl ⟨bx_put hbf hp13 hg12w, .inl ⟨.inl (by rw [HG.out]; rintro ⟨k1, k2, k3, k4, k5, k6⟩; exact H6'.out k6), rfl⟩⟩
  rw [show (Y1 == Y2) = true by simpa using h6] at heq4
  have H6' := hid h6
  clear h6
  have hgo : G := by rw [HG.out]; exact ⟨H1'.out, by simp, by simp, H4'.out, H5'.out, H6'.out⟩
  have hRl := HL1.out rfl
  have hSl := HL2.out rfl
  have hDl := HST.out rfl
  have hD1 : 1 ≤ D := by
    rcases Nat.lt_or_ge D 1 with h | h
    · exfalso
      have e1 := HN1.out rfl (by omega)
      have e2 := HN2.out rfl (by omega)
      apply H1'.out
      rw [← H4'.out, ← H5'.out, e1, e2, H6'.out]
    · exact h
  have HHI := hid (fun (W : World) (hbW : Below w8.heap.size w8 W) => highest_shows w W (bx_trans hb08 hbW) hgo (hRl.trans hSl.symm) (by omega) (by omega) (own_keep HO1.out hbW) (own_keep HO2.out hbW) (HW1.out.below hbW) (HW2.out.below hbW))
  clear hRl hSl hDl hD1
  refine wp_region_lit ?_
  refine wp_flowSE [0, 1, 3, 7, 15, 31, 63, 127, 255, 511, 1023, 2047, 4095, 8191, 16383, 32767, 65535, 131071, 262143, 524287, 1048575, 2097151, 4194303, 8388607, 16777215, 33554431, 67108863, 134217727, 268435455, 536870911, 1073741823, 2147483647, 4294967295, 8589934591, 17179869183, 34359738367, 68719476735, 137438953471, 274877906943, 549755813887, 1099511627775] 41 [false, false, false, false, false, false, false, false, false, false, false, false, false, false, false, false, false, false, false, false, false, false, false, false, false, false, false, false, false, false, false, false, false, false, false, false, false, false, true, true, true, true, true, true, true, true, true, true, true, true, true, true, true, true, true, true, true, true, true, true, true, true, true, true, true, true, true, true, true, true, true, true, true, true, true, true, true, true, true] (by kernel_rfl) (by kernel_rfl) (by kernel_rfl) [FP.eq (.pointer (some ⟨w.heap.size, 0, none⟩)), FP.eq (.int .u64 (m : Int)), FP.eq (.pointer (some ⟨w.heap.size + 1, 0, none⟩)), FP.eq (.int .u64 (m : Int)), FP.eq (.bool false), FP.eq (.bool false), FP.eq (.pointer (some ⟨w.heap.size, 1, none⟩)), FP.eq (.agg (a.map cb).toArray), FP.eq (.pointer (some ⟨w.heap.size + 1, 1, none⟩)), FP.eq (.agg (b.map cb).toArray), FP.eq (.bool false), FP.eq (.bool false), FP.eq (.bool false), FP.eq (.int .i64 0), FP.eq (.bool false), FP.eq (.bool false), FP.eq (.bool false), FP.eq (.int .i64 0), FP.eq (.bool false), FP.eq (.bool false), FP.eq (.bool false), FP.eq (.pointer (some ⟨g15, 0, none⟩)), FP.eq (.agg (X1.map cb).toArray), FP.eq (.pointer (some ⟨w.heap.size, 1, none⟩)), FP.eq (.agg (a.map cb).toArray), FP.eq (.bool false), FP.eq (.bool false), FP.eq (.bool false), FP.eq (.pointer (some ⟨g18, 0, none⟩)), FP.eq (.agg (X2.map cb).toArray), FP.eq (.pointer (some ⟨w.heap.size + 1, 1, none⟩)), FP.eq (.agg (b.map cb).toArray), FP.eq (.bool false), FP.eq (.bool false), FP.eq (.bool false), FP.eq (.pointer (some ⟨g15, 32, none⟩)), FP.eq (.agg (Y1.map cb).toArray), FP.eq (.pointer (some ⟨g18, 32, none⟩)), FP.eq (.agg (Y2.map cb).toArray), FP.eq (.bool false), FP.eq (.bool false)] ?_ ?_
  · refine allFrom_cons ?_ ?_
    · intro a_ w_ hk_
      have h7 : a_.eval (.tmp 7) = .pointer (some ⟨w.heap.size, 0, none⟩) := hk_.old 7 (by kernel_rfl)
      have hx_ := hk_.ext
      clear hk_
      refine flow_plain rfl ?_
      unfold gives
      have hc_ : ∀ v, a_.eval (.const v) = v := fun _ => rfl
      have hn_ : ∀ f, a_.eval (.func f) = .func (.func f) #[] #[] := fun _ => rfl
      generalize a_.eval = ρ_ at *
      go_simp
      exact ⟨Below.refl _ _, rfl⟩
    refine allFrom_cons ?_ ?_
    · intro a_ w_ hk_
      have h38 : a_.eval (.tmp 38) = (.pointer (some ⟨w.heap.size, 0, none⟩)) := hk_.got 0 38 _ (by kernel_rfl) rfl rfl
      have hx_ := hk_.ext
      clear hk_
      refine flow_plain rfl ?_
      unfold gives
      have hc_ : ∀ v, a_.eval (.const v) = v := fun _ => rfl
      have hn_ : ∀ f, a_.eval (.func f) = .func (.func f) #[] #[] := fun _ => rfl
      have hcell := (hx_.cell (p := ⟨w.heap.size, 0, none⟩) hlA).trans csA
      generalize a_.eval = ρ_ at *
      go_simp
      exact ⟨Below.refl _ _, rfl⟩
    refine allFrom_cons ?_ ?_
    · intro a_ w_ hk_
      have h8 : a_.eval (.tmp 8) = .pointer (some ⟨w.heap.size + 1, 0, none⟩) := hk_.old 8 (by kernel_rfl)
      have hx_ := hk_.ext
      clear hk_
      refine flow_plain rfl ?_
      unfold gives
      have hc_ : ∀ v, a_.eval (.const v) = v := fun _ => rfl
      have hn_ : ∀ f, a_.eval (.func f) = .func (.func f) #[] #[] := fun _ => rfl
      generalize a_.eval = ρ_ at *
      go_simp
      exact ⟨Below.refl _ _, rfl⟩
    refine allFrom_cons ?_ ?_
    · intro a_ w_ hk_
      have h40 : a_.eval (.tmp 40) = (.pointer (some ⟨w.heap.size + 1, 0, none⟩)) := hk_.got 2 40 _ (by kernel_rfl) rfl rfl
      have hx_ := hk_.ext
      clear hk_
      refine flow_plain rfl ?_
      unfold gives
      have hc_ : ∀ v, a_.eval (.const v) = v := fun _ => rfl
      have hn_ : ∀ f, a_.eval (.func f) = .func (.func f) #[] #[] := fun _ => rfl
      have hcell := (hx_.cell (p := ⟨w.heap.size + 1, 0, none⟩) hlB).trans csB
      generalize a_.eval = ρ_ at *
      go_simp
      exact ⟨Below.refl _ _, rfl⟩
    refine allFrom_cons ?_ ?_
    · intro a_ w_ hk_
      have h39 : a_.eval (.tmp 39) = (.int .u64 (m : Int)) := hk_.got 1 39 _ (by kernel_rfl) rfl rfl
      have h41 : a_.eval (.tmp 41) = (.int .u64 (m : Int)) := hk_.got 3 41 _ (by kernel_rfl) rfl rfl
      have hx_ := hk_.ext
      clear hk_
      refine flow_plain rfl ?_
      unfold gives
      have hc_ : ∀ v, a_.eval (.const v) = v := fun _ => rfl
      have hn_ : ∀ f, a_.eval (.func f) = .func (.func f) #[] #[] := fun _ => rfl
      generalize a_.eval = ρ_ at *
      go_simp
      exact ⟨Below.refl _ _, rfl⟩
    refine allFrom_cons ?_ ?_
    · intro a_ w_ hk_
      have h42 : a_.eval (.tmp 42) = (.bool false) := hk_.got 4 42 _ (by kernel_rfl) rfl rfl
      have hx_ := hk_.ext
      clear hk_
      refine flow_plain rfl ?_
      exact gives_move rfl ⟨Below.refl _ _, h42⟩
    refine allFrom_cons ?_ ?_
    · intro a_ w_ hk_
      have h7 : a_.eval (.tmp 7) = .pointer (some ⟨w.heap.size, 0, none⟩) := hk_.old 7 (by kernel_rfl)
      have hg_ : a_.eval (.tmp 43) = .bool false := hk_.got 5 43 _ (by kernel_rfl) rfl rfl
      have hy_ := hk_.want 5 _ 43 false rfl rfl hg_
      have hx_ := hk_.ext
      clear hk_
      refine flow_want rfl hy_ ?_
      unfold gives
      have hc_ : ∀ v, a_.eval (.const v) = v := fun _ => rfl
      have hn_ : ∀ f, a_.eval (.func f) = .func (.func f) #[] #[] := fun _ => rfl
      clear hy_ hg_
      generalize a_.eval = ρ_ at *
      go_simp
      exact ⟨Below.refl _ _, rfl⟩
    refine allFrom_cons ?_ ?_
    · intro a_ w_ hk_
      have h44 : a_.eval (.tmp 44) = (.pointer (some ⟨w.heap.size, 1, none⟩)) := hk_.got 6 44 _ (by kernel_rfl) rfl rfl
      have hg_ : a_.eval (.tmp 43) = .bool false := hk_.got 5 43 _ (by kernel_rfl) rfl rfl
      have hy_ := hk_.want 5 _ 43 false rfl rfl hg_
      have hx_ := hk_.ext
      clear hk_
      refine flow_want rfl hy_ ?_
      exact gives_ldC rfl h44 (aggHL ha) (fun j v hv => (hx_.cell (p := ⟨_, _, none⟩) hlA).trans (ca j v hv)) ⟨Below.refl _ _, rfl⟩
    refine allFrom_cons ?_ ?_
    · intro a_ w_ hk_
      have h8 : a_.eval (.tmp 8) = .pointer (some ⟨w.heap.size + 1, 0, none⟩) := hk_.old 8 (by kernel_rfl)
      have hg_ : a_.eval (.tmp 43) = .bool false := hk_.got 5 43 _ (by kernel_rfl) rfl rfl
      have hy_ := hk_.want 5 _ 43 false rfl rfl hg_
      have hx_ := hk_.ext
      clear hk_
      refine flow_want rfl hy_ ?_
      unfold gives
      have hc_ : ∀ v, a_.eval (.const v) = v := fun _ => rfl
      have hn_ : ∀ f, a_.eval (.func f) = .func (.func f) #[] #[] := fun _ => rfl
      clear hy_ hg_
      generalize a_.eval = ρ_ at *
      go_simp
      exact ⟨Below.refl _ _, rfl⟩
    refine allFrom_cons ?_ ?_
    · intro a_ w_ hk_
      have h46 : a_.eval (.tmp 46) = (.pointer (some ⟨w.heap.size + 1, 1, none⟩)) := hk_.got 8 46 _ (by kernel_rfl) rfl rfl
      have hg_ : a_.eval (.tmp 43) = .bool false := hk_.got 5 43 _ (by kernel_rfl) rfl rfl
      have hy_ := hk_.want 5 _ 43 false rfl rfl hg_
      have hx_ := hk_.ext
      clear hk_
      refine flow_want rfl hy_ ?_
      exact gives_ldC rfl h46 (aggHL hb) (fun j v hv => (hx_.cell (p := ⟨_, _, none⟩) hlB).trans (cbb j v hv)) ⟨Below.refl _ _, rfl⟩
    refine allFrom_cons ?_ ?_
    · intro a_ w_ hk_
      have h45 : a_.eval (.tmp 45) = (.agg (a.map cb).toArray) := hk_.got 7 45 _ (by kernel_rfl) rfl rfl
      have h47 : a_.eval (.tmp 47) = (.agg (b.map cb).toArray) := hk_.got 9 47 _ (by kernel_rfl) rfl rfl
      have hg_ : a_.eval (.tmp 43) = .bool false := hk_.got 5 43 _ (by kernel_rfl) rfl rfl
      have hy_ := hk_.want 5 _ 43 false rfl rfl hg_
      have hx_ := hk_.ext
      clear hk_
      refine flow_want rfl hy_ ?_
      unfold gives
      have hc_ : ∀ v, a_.eval (.const v) = v := fun _ => rfl
      have hn_ : ∀ f, a_.eval (.func f) = .func (.func f) #[] #[] := fun _ => rfl
      clear hy_ hg_
      generalize a_.eval = ρ_ at *
      go_simp
      exact ⟨Below.refl _ _, rfl⟩
    refine allFrom_cons ?_ ?_
    · intro a_ w_ hk_
      have h43 : a_.eval (.tmp 43) = (.bool false) := hk_.got 5 43 _ (by kernel_rfl) rfl rfl
      have h48 : a_.eval (.tmp 48) = (.bool false) := hk_.got 10 48 _ (by kernel_rfl) rfl rfl
      have hx_ := hk_.ext
      clear hk_
      refine flow_plain rfl ?_
      exact gives_pick rfl h43 ⟨Below.refl _ _, h48⟩
    refine allFrom_cons ?_ ?_
    · intro a_ w_ hk_
      have h49 : a_.eval (.tmp 49) = (.bool false) := hk_.got 11 49 _ (by kernel_rfl) rfl rfl
      have hx_ := hk_.ext
      clear hk_
      refine flow_plain rfl ?_
      exact gives_move rfl ⟨Below.refl _ _, h49⟩
    refine allFrom_cons ?_ ?_
    · intro a_ w_ hk_
      have h16 : a_.eval (.tmp 16) = .int .i64 0 := hk_.old 16 (by kernel_rfl)
      have hg_ : a_.eval (.tmp 50) = .bool false := hk_.got 12 50 _ (by kernel_rfl) rfl rfl
      have hy_ := hk_.want 12 _ 50 false rfl rfl hg_
      have hx_ := hk_.ext
      clear hk_
      refine flow_want rfl hy_ ?_
      exact gives_move rfl ⟨Below.refl _ _, h16⟩
    refine allFrom_cons ?_ ?_
    · intro a_ w_ hk_
      have h51 : a_.eval (.tmp 51) = (.int .i64 0) := hk_.got 13 51 _ (by kernel_rfl) rfl rfl
      have hg_ : a_.eval (.tmp 50) = .bool false := hk_.got 12 50 _ (by kernel_rfl) rfl rfl
      have hy_ := hk_.want 12 _ 50 false rfl rfl hg_
      have hx_ := hk_.ext
      clear hk_
      refine flow_want rfl hy_ ?_
      unfold gives
      have hc_ : ∀ v, a_.eval (.const v) = v := fun _ => rfl
      have hn_ : ∀ f, a_.eval (.func f) = .func (.func f) #[] #[] := fun _ => rfl
      clear hy_ hg_
      generalize a_.eval = ρ_ at *
      go_simp
      exact ⟨Below.refl _ _, rfl⟩
    refine allFrom_cons ?_ ?_
    · intro a_ w_ hk_
      have h50 : a_.eval (.tmp 50) = (.bool false) := hk_.got 12 50 _ (by kernel_rfl) rfl rfl
      have h52 : a_.eval (.tmp 52) = (.bool false) := hk_.got 14 52 _ (by kernel_rfl) rfl rfl
      have hx_ := hk_.ext
      clear hk_
      refine flow_plain rfl ?_
      exact gives_pick rfl h50 ⟨Below.refl _ _, h52⟩
    refine allFrom_cons ?_ ?_
    · intro a_ w_ hk_
      have h53 : a_.eval (.tmp 53) = (.bool false) := hk_.got 15 53 _ (by kernel_rfl) rfl rfl
      have hx_ := hk_.ext
      clear hk_
      refine flow_plain rfl ?_
      exact gives_move rfl ⟨Below.refl _ _, h53⟩
    refine allFrom_cons ?_ ?_
    · intro a_ w_ hk_
      have h19 : a_.eval (.tmp 19) = .int .i64 0 := hk_.old 19 (by kernel_rfl)
      have hg_ : a_.eval (.tmp 54) = .bool false := hk_.got 16 54 _ (by kernel_rfl) rfl rfl
      have hy_ := hk_.want 16 _ 54 false rfl rfl hg_
      have hx_ := hk_.ext
      clear hk_
      refine flow_want rfl hy_ ?_
      exact gives_move rfl ⟨Below.refl _ _, h19⟩
    refine allFrom_cons ?_ ?_
    · intro a_ w_ hk_
      have h55 : a_.eval (.tmp 55) = (.int .i64 0) := hk_.got 17 55 _ (by kernel_rfl) rfl rfl
      have hg_ : a_.eval (.tmp 54) = .bool false := hk_.got 16 54 _ (by kernel_rfl) rfl rfl
      have hy_ := hk_.want 16 _ 54 false rfl rfl hg_
      have hx_ := hk_.ext
      clear hk_
      refine flow_want rfl hy_ ?_
      unfold gives
      have hc_ : ∀ v, a_.eval (.const v) = v := fun _ => rfl
      have hn_ : ∀ f, a_.eval (.func f) = .func (.func f) #[] #[] := fun _ => rfl
      clear hy_ hg_
      generalize a_.eval = ρ_ at *
      go_simp
      exact ⟨Below.refl _ _, rfl⟩
    refine allFrom_cons ?_ ?_
    · intro a_ w_ hk_
      have h54 : a_.eval (.tmp 54) = (.bool false) := hk_.got 16 54 _ (by kernel_rfl) rfl rfl
      have h56 : a_.eval (.tmp 56) = (.bool false) := hk_.got 18 56 _ (by kernel_rfl) rfl rfl
      have hx_ := hk_.ext
      clear hk_
      refine flow_plain rfl ?_
      exact gives_pick rfl h54 ⟨Below.refl _ _, h56⟩
    refine allFrom_cons ?_ ?_
    · intro a_ w_ hk_
      have h57 : a_.eval (.tmp 57) = (.bool false) := hk_.got 19 57 _ (by kernel_rfl) rfl rfl
      have hx_ := hk_.ext
      clear hk_
      refine flow_plain rfl ?_
      exact gives_move rfl ⟨Below.refl _ _, h57⟩
    refine allFrom_cons ?_ ?_
    · intro a_ w_ hk_
      have h15 : a_.eval (.tmp 15) = .pointer (some ⟨g15, 0, none⟩) := hk_.old 15 (by kernel_rfl)
      have hg_ : a_.eval (.tmp 58) = .bool false := hk_.got 20 58 _ (by kernel_rfl) rfl rfl
      have hy_ := hk_.want 20 _ 58 false rfl rfl hg_
      have hx_ := hk_.ext
      clear hk_
      refine flow_want rfl hy_ ?_
      unfold gives
      have hc_ : ∀ v, a_.eval (.const v) = v := fun _ => rfl
      have hn_ : ∀ f, a_.eval (.func f) = .func (.func f) #[] #[] := fun _ => rfl
      clear hy_ hg_
      generalize a_.eval = ρ_ at *
      go_simp
      exact ⟨Below.refl _ _, rfl⟩
    refine allFrom_cons ?_ ?_
    · intro a_ w_ hk_
      have h59 : a_.eval (.tmp 59) = (.pointer (some ⟨g15, 0, none⟩)) := hk_.got 21 59 _ (by kernel_rfl) rfl rfl
      have hg_ : a_.eval (.tmp 58) = .bool false := hk_.got 20 58 _ (by kernel_rfl) rfl rfl
      have hy_ := hk_.want 20 _ 58 false rfl rfl hg_
      have hx_ := hk_.ext
      clear hk_
      refine flow_want rfl hy_ ?_
      exact gives_ldC rfl h59 (aggHL hX1) (fun j v hv => (hx_.cell (p := ⟨_, _, none⟩) hl15).trans (cx1 j v hv)) ⟨Below.refl _ _, rfl⟩
    refine allFrom_cons ?_ ?_
    · intro a_ w_ hk_
      have h7 : a_.eval (.tmp 7) = .pointer (some ⟨w.heap.size, 0, none⟩) := hk_.old 7 (by kernel_rfl)
      have hg_ : a_.eval (.tmp 58) = .bool false := hk_.got 20 58 _ (by kernel_rfl) rfl rfl
      have hy_ := hk_.want 20 _ 58 false rfl rfl hg_
      have hx_ := hk_.ext
      clear hk_
      refine flow_want rfl hy_ ?_
      unfold gives
      have hc_ : ∀ v, a_.eval (.const v) = v := fun _ => rfl
      have hn_ : ∀ f, a_.eval (.func f) = .func (.func f) #[] #[] := fun _ => rfl
      clear hy_ hg_
      generalize a_.eval = ρ_ at *
      go_simp
      exact ⟨Below.refl _ _, rfl⟩
    refine allFrom_cons ?_ ?_
    · intro a_ w_ hk_
      have h61 : a_.eval (.tmp 61) = (.pointer (some ⟨w.heap.size, 1, none⟩)) := hk_.got 23 61 _ (by kernel_rfl) rfl rfl
      have hg_ : a_.eval (.tmp 58) = .bool false := hk_.got 20 58 _ (by kernel_rfl) rfl rfl
      have hy_ := hk_.want 20 _ 58 false rfl rfl hg_
      have hx_ := hk_.ext
      clear hk_
      refine flow_want rfl hy_ ?_
      exact gives_ldC rfl h61 (aggHL ha) (fun j v hv => (hx_.cell (p := ⟨_, _, none⟩) hlA).trans (ca j v hv)) ⟨Below.refl _ _, rfl⟩
    refine allFrom_cons ?_ ?_
    · intro a_ w_ hk_
      have h60 : a_.eval (.tmp 60) = (.agg (X1.map cb).toArray) := hk_.got 22 60 _ (by kernel_rfl) rfl rfl
      have h62 : a_.eval (.tmp 62) = (.agg (a.map cb).toArray) := hk_.got 24 62 _ (by kernel_rfl) rfl rfl
      have hg_ : a_.eval (.tmp 58) = .bool false := hk_.got 20 58 _ (by kernel_rfl) rfl rfl
      have hy_ := hk_.want 20 _ 58 false rfl rfl hg_
      have hx_ := hk_.ext
      clear hk_
      refine flow_want rfl hy_ ?_
      unfold gives
      have hc_ : ∀ v, a_.eval (.const v) = v := fun _ => rfl
      have hn_ : ∀ f, a_.eval (.func f) = .func (.func f) #[] #[] := fun _ => rfl
      clear hy_ hg_
      generalize a_.eval = ρ_ at *
      go_simp
      exact ⟨Below.refl _ _, rfl⟩
    refine allFrom_cons ?_ ?_
    · intro a_ w_ hk_
      have h58 : a_.eval (.tmp 58) = (.bool false) := hk_.got 20 58 _ (by kernel_rfl) rfl rfl
      have h63 : a_.eval (.tmp 63) = (.bool false) := hk_.got 25 63 _ (by kernel_rfl) rfl rfl
      have hx_ := hk_.ext
      clear hk_
      refine flow_plain rfl ?_
      exact gives_pick rfl h58 ⟨Below.refl _ _, h63⟩
    refine allFrom_cons ?_ ?_
    · intro a_ w_ hk_
      have h64 : a_.eval (.tmp 64) = (.bool false) := hk_.got 26 64 _ (by kernel_rfl) rfl rfl
      have hx_ := hk_.ext
      clear hk_
      refine flow_plain rfl ?_
      exact gives_move rfl ⟨Below.refl _ _, h64⟩
    refine allFrom_cons ?_ ?_
    · intro a_ w_ hk_
      have h18 : a_.eval (.tmp 18) = .pointer (some ⟨g18, 0, none⟩) := hk_.old 18 (by kernel_rfl)
      have hg_ : a_.eval (.tmp 65) = .bool false := hk_.got 27 65 _ (by kernel_rfl) rfl rfl
      have hy_ := hk_.want 27 _ 65 false rfl rfl hg_
      have hx_ := hk_.ext
      clear hk_
      refine flow_want rfl hy_ ?_
      unfold gives
      have hc_ : ∀ v, a_.eval (.const v) = v := fun _ => rfl
      have hn_ : ∀ f, a_.eval (.func f) = .func (.func f) #[] #[] := fun _ => rfl
      clear hy_ hg_
      generalize a_.eval = ρ_ at *
      go_simp
      exact ⟨Below.refl _ _, rfl⟩
    refine allFrom_cons ?_ ?_
    · intro a_ w_ hk_
      have h66 : a_.eval (.tmp 66) = (.pointer (some ⟨g18, 0, none⟩)) := hk_.got 28 66 _ (by kernel_rfl) rfl rfl
      have hg_ : a_.eval (.tmp 65) = .bool false := hk_.got 27 65 _ (by kernel_rfl) rfl rfl
      have hy_ := hk_.want 27 _ 65 false rfl rfl hg_
      have hx_ := hk_.ext
      clear hk_
      refine flow_want rfl hy_ ?_
      exact gives_ldC rfl h66 (aggHL hX2) (fun j v hv => (hx_.cell (p := ⟨_, _, none⟩) hl18).trans (cx2 j v hv)) ⟨Below.refl _ _, rfl⟩
    refine allFrom_cons ?_ ?_
    · intro a_ w_ hk_
      have h8 : a_.eval (.tmp 8) = .pointer (some ⟨w.heap.size + 1, 0, none⟩) := hk_.old 8 (by kernel_rfl)
      have hg_ : a_.eval (.tmp 65) = .bool false := hk_.got 27 65 _ (by kernel_rfl) rfl rfl
      have hy_ := hk_.want 27 _ 65 false rfl rfl hg_
      have hx_ := hk_.ext
      clear hk_
      refine flow_want rfl hy_ ?_
      unfold gives
      have hc_ : ∀ v, a_.eval (.const v) = v := fun _ => rfl
      have hn_ : ∀ f, a_.eval (.func f) = .func (.func f) #[] #[] := fun _ => rfl
      clear hy_ hg_
      generalize a_.eval = ρ_ at *
      go_simp
      exact ⟨Below.refl _ _, rfl⟩
    refine allFrom_cons ?_ ?_
    · intro a_ w_ hk_
      have h68 : a_.eval (.tmp 68) = (.pointer (some ⟨w.heap.size + 1, 1, none⟩)) := hk_.got 30 68 _ (by kernel_rfl) rfl rfl
      have hg_ : a_.eval (.tmp 65) = .bool false := hk_.got 27 65 _ (by kernel_rfl) rfl rfl
      have hy_ := hk_.want 27 _ 65 false rfl rfl hg_
      have hx_ := hk_.ext
      clear hk_
      refine flow_want rfl hy_ ?_
      exact gives_ldC rfl h68 (aggHL hb) (fun j v hv => (hx_.cell (p := ⟨_, _, none⟩) hlB).trans (cbb j v hv)) ⟨Below.refl _ _, rfl⟩
    refine allFrom_cons ?_ ?_
    · intro a_ w_ hk_
      have h67 : a_.eval (.tmp 67) = (.agg (X2.map cb).toArray) := hk_.got 29 67 _ (by kernel_rfl) rfl rfl
      have h69 : a_.eval (.tmp 69) = (.agg (b.map cb).toArray) := hk_.got 31 69 _ (by kernel_rfl) rfl rfl
      have hg_ : a_.eval (.tmp 65) = .bool false := hk_.got 27 65 _ (by kernel_rfl) rfl rfl
      have hy_ := hk_.want 27 _ 65 false rfl rfl hg_
      have hx_ := hk_.ext
      clear hk_
      refine flow_want rfl hy_ ?_
      unfold gives
      have hc_ : ∀ v, a_.eval (.const v) = v := fun _ => rfl
      have hn_ : ∀ f, a_.eval (.func f) = .func (.func f) #[] #[] := fun _ => rfl
      clear hy_ hg_
      generalize a_.eval = ρ_ at *
      go_simp
      exact ⟨Below.refl _ _, rfl⟩
    refine allFrom_cons ?_ ?_
    · intro a_ w_ hk_
      have h65 : a_.eval (.tmp 65) = (.bool false) := hk_.got 27 65 _ (by kernel_rfl) rfl rfl
      have h70 : a_.eval (.tmp 70) = (.bool false) := hk_.got 32 70 _ (by kernel_rfl) rfl rfl
      have hx_ := hk_.ext
      clear hk_
      refine flow_plain rfl ?_
      exact gives_pick rfl h65 ⟨Below.refl _ _, h70⟩
    refine allFrom_cons ?_ ?_
    · intro a_ w_ hk_
      have h71 : a_.eval (.tmp 71) = (.bool false) := hk_.got 33 71 _ (by kernel_rfl) rfl rfl
      have hx_ := hk_.ext
      clear hk_
      refine flow_plain rfl ?_
      exact gives_move rfl ⟨Below.refl _ _, h71⟩
    refine allFrom_cons ?_ ?_
    · intro a_ w_ hk_
      have h15 : a_.eval (.tmp 15) = .pointer (some ⟨g15, 0, none⟩) := hk_.old 15 (by kernel_rfl)
      have hg_ : a_.eval (.tmp 72) = .bool false := hk_.got 34 72 _ (by kernel_rfl) rfl rfl
      have hy_ := hk_.want 34 _ 72 false rfl rfl hg_
      have hx_ := hk_.ext
      clear hk_
      refine flow_want rfl hy_ ?_
      unfold gives
      have hc_ : ∀ v, a_.eval (.const v) = v := fun _ => rfl
      have hn_ : ∀ f, a_.eval (.func f) = .func (.func f) #[] #[] := fun _ => rfl
      clear hy_ hg_
      generalize a_.eval = ρ_ at *
      go_simp
      exact ⟨Below.refl _ _, rfl⟩
    refine allFrom_cons ?_ ?_
    · intro a_ w_ hk_
      have h73 : a_.eval (.tmp 73) = (.pointer (some ⟨g15, 32, none⟩)) := hk_.got 35 73 _ (by kernel_rfl) rfl rfl
      have hg_ : a_.eval (.tmp 72) = .bool false := hk_.got 34 72 _ (by kernel_rfl) rfl rfl
      have hy_ := hk_.want 34 _ 72 false rfl rfl hg_
      have hx_ := hk_.ext
      clear hk_
      refine flow_want rfl hy_ ?_
      exact gives_ldC rfl h73 (aggHL hY1) (fun j v hv => (hx_.cell (p := ⟨_, _, none⟩) hl15).trans (cy1 j v hv)) ⟨Below.refl _ _, rfl⟩
    refine allFrom_cons ?_ ?_
    · intro a_ w_ hk_
      have h18 : a_.eval (.tmp 18) = .pointer (some ⟨g18, 0, none⟩) := hk_.old 18 (by kernel_rfl)
      have hg_ : a_.eval (.tmp 72) = .bool false := hk_.got 34 72 _ (by kernel_rfl) rfl rfl
      have hy_ := hk_.want 34 _ 72 false rfl rfl hg_
      have hx_ := hk_.ext
      clear hk_
      refine flow_want rfl hy_ ?_
      unfold gives
      have hc_ : ∀ v, a_.eval (.const v) = v := fun _ => rfl
      have hn_ : ∀ f, a_.eval (.func f) = .func (.func f) #[] #[] := fun _ => rfl
      clear hy_ hg_
      generalize a_.eval = ρ_ at *
      go_simp
      exact ⟨Below.refl _ _, rfl⟩
    refine allFrom_cons ?_ ?_
    · intro a_ w_ hk_
      have h75 : a_.eval (.tmp 75) = (.pointer (some ⟨g18, 32, none⟩)) := hk_.got 37 75 _ (by kernel_rfl) rfl rfl
      have hg_ : a_.eval (.tmp 72) = .bool false := hk_.got 34 72 _ (by kernel_rfl) rfl rfl
      have hy_ := hk_.want 34 _ 72 false rfl rfl hg_
      have hx_ := hk_.ext
      clear hk_
      refine flow_want rfl hy_ ?_
      exact gives_ldC rfl h75 (aggHL hY2) (fun j v hv => (hx_.cell (p := ⟨_, _, none⟩) hl18).trans (cy2 j v hv)) ⟨Below.refl _ _, rfl⟩
    refine allFrom_cons ?_ ?_
    · intro a_ w_ hk_
      have h74 : a_.eval (.tmp 74) = (.agg (Y1.map cb).toArray) := hk_.got 36 74 _ (by kernel_rfl) rfl rfl
      have h76 : a_.eval (.tmp 76) = (.agg (Y2.map cb).toArray) := hk_.got 38 76 _ (by kernel_rfl) rfl rfl
      have hg_ : a_.eval (.tmp 72) = .bool false := hk_.got 34 72 _ (by kernel_rfl) rfl rfl
      have hy_ := hk_.want 34 _ 72 false rfl rfl hg_
      have hx_ := hk_.ext
      clear hk_
      refine flow_want rfl hy_ ?_
      unfold gives
      have hc_ : ∀ v, a_.eval (.const v) = v := fun _ => rfl
      have hn_ : ∀ f, a_.eval (.func f) = .func (.func f) #[] #[] := fun _ => rfl
      clear hy_ hg_
      generalize a_.eval = ρ_ at *
      go_simp
      exact ⟨Below.refl _ _, rfl⟩
    refine allFrom_cons ?_ ?_
    · intro a_ w_ hk_
      have h72 : a_.eval (.tmp 72) = (.bool false) := hk_.got 34 72 _ (by kernel_rfl) rfl rfl
      have h77 : a_.eval (.tmp 77) = (.bool false) := hk_.got 39 77 _ (by kernel_rfl) rfl rfl
      have hx_ := hk_.ext
      clear hk_
      refine flow_plain rfl ?_
      exact gives_pick rfl h72 ⟨Below.refl _ _, h77⟩
    exact allFrom_nil
  intro f_ w_ hx_ hf_
  have h38 : f_ 38 = (.pointer (some ⟨w.heap.size, 0, none⟩)) := hf_ 0 38 _ (by decide) rfl rfl
  have h39 : f_ 39 = (.int .u64 (m : Int)) := hf_ 1 39 _ (by decide) rfl rfl
  have h40 : f_ 40 = (.pointer (some ⟨w.heap.size + 1, 0, none⟩)) := hf_ 2 40 _ (by decide) rfl rfl
  have h41 : f_ 41 = (.int .u64 (m : Int)) := hf_ 3 41 _ (by decide) rfl rfl
  have h42 : f_ 42 = (.bool false) := hf_ 4 42 _ (by decide) rfl rfl
  have h43 : f_ 43 = (.bool false) := hf_ 5 43 _ (by decide) rfl rfl
  have h44 : f_ 44 = (.pointer (some ⟨w.heap.size, 1, none⟩)) := hf_ 6 44 _ (by decide) rfl rfl
  have h45 : f_ 45 = (.agg (a.map cb).toArray) := hf_ 7 45 _ (by decide) rfl rfl
  have h46 : f_ 46 = (.pointer (some ⟨w.heap.size + 1, 1, none⟩)) := hf_ 8 46 _ (by decide) rfl rfl
  have h47 : f_ 47 = (.agg (b.map cb).toArray) := hf_ 9 47 _ (by decide) rfl rfl
  have h48 : f_ 48 = (.bool false) := hf_ 10 48 _ (by decide) rfl rfl
  have h49 : f_ 49 = (.bool false) := hf_ 11 49 _ (by decide) rfl rfl
  have h50 : f_ 50 = (.bool false) := hf_ 12 50 _ (by decide) rfl rfl
  have h51 : f_ 51 = (.int .i64 0) := hf_ 13 51 _ (by decide) rfl rfl
  have h52 : f_ 52 = (.bool false) := hf_ 14 52 _ (by decide) rfl rfl
  have h53 : f_ 53 = (.bool false) := hf_ 15 53 _ (by decide) rfl rfl
  have h54 : f_ 54 = (.bool false) := hf_ 16 54 _ (by decide) rfl rfl
  have h55 : f_ 55 = (.int .i64 0) := hf_ 17 55 _ (by decide) rfl rfl
  have h56 : f_ 56 = (.bool false) := hf_ 18 56 _ (by decide) rfl rfl
  have h57 : f_ 57 = (.bool false) := hf_ 19 57 _ (by decide) rfl rfl
  have h58 : f_ 58 = (.bool false) := hf_ 20 58 _ (by decide) rfl rfl
  have h59 : f_ 59 = (.pointer (some ⟨g15, 0, none⟩)) := hf_ 21 59 _ (by decide) rfl rfl
  have h60 : f_ 60 = (.agg (X1.map cb).toArray) := hf_ 22 60 _ (by decide) rfl rfl
  have h61 : f_ 61 = (.pointer (some ⟨w.heap.size, 1, none⟩)) := hf_ 23 61 _ (by decide) rfl rfl
  have h62 : f_ 62 = (.agg (a.map cb).toArray) := hf_ 24 62 _ (by decide) rfl rfl
  have h63 : f_ 63 = (.bool false) := hf_ 25 63 _ (by decide) rfl rfl
  have h64 : f_ 64 = (.bool false) := hf_ 26 64 _ (by decide) rfl rfl
  have h65 : f_ 65 = (.bool false) := hf_ 27 65 _ (by decide) rfl rfl
  have h66 : f_ 66 = (.pointer (some ⟨g18, 0, none⟩)) := hf_ 28 66 _ (by decide) rfl rfl
  have h67 : f_ 67 = (.agg (X2.map cb).toArray) := hf_ 29 67 _ (by decide) rfl rfl
  have h68 : f_ 68 = (.pointer (some ⟨w.heap.size + 1, 1, none⟩)) := hf_ 30 68 _ (by decide) rfl rfl
  have h69 : f_ 69 = (.agg (b.map cb).toArray) := hf_ 31 69 _ (by decide) rfl rfl
  have h70 : f_ 70 = (.bool false) := hf_ 32 70 _ (by decide) rfl rfl
  have h71 : f_ 71 = (.bool false) := hf_ 33 71 _ (by decide) rfl rfl
  have h72 : f_ 72 = (.bool false) := hf_ 34 72 _ (by decide) rfl rfl
  have h73 : f_ 73 = (.pointer (some ⟨g15, 32, none⟩)) := hf_ 35 73 _ (by decide) rfl rfl
  have h74 : f_ 74 = (.agg (Y1.map cb).toArray) := hf_ 36 74 _ (by decide) rfl rfl
  have h75 : f_ 75 = (.pointer (some ⟨g18, 32, none⟩)) := hf_ 37 75 _ (by decide) rfl rfl
  have h76 : f_ 76 = (.agg (Y2.map cb).toArray) := hf_ 38 76 _ (by decide) rfl rfl
  have h77 : f_ 77 = (.bool false) := hf_ 39 77 _ (by decide) rfl rfl
  have h78 : f_ 78 = (.bool false) := hf_ 40 78 _ (by decide) rfl rfl
  simp only [mix, h38, h39, h40, h41, h42, h43, h44, h45, h46, h47, h48, h49, h50, h51, h52, h53, h54, h55, h56, h57, h58, h59, h60, h61, h62, h63, h64, h65, h66, h67, h68, h69, h70, h71, h72, h73, h74, h75, h76, h77, h78]
  clear h38 h39 h40 h41 h42 h43 h44 h45 h46 h47 h48 h49 h50 h51 h52 h53 h54 h55 h56 h57 h58 h59 h60 h61 h62 h63 h64 h65 h66 h67 h68 h69 h70 h71 h72 h73 h74 h75 h76 h77 h78
  clear hf_
  have hzf := hz8.below hx_ hz8.lt
  have hbf := bx_trans hb08 hx_
  have HHJ := hid (HHI.out _ hx_)
  clear hx_
  go_wp2_with fail
  refine HHJ.out.mono ?_
  rintro e w12 ⟨hb12, va, vb, bo, rfl, oa, ob, hbo⟩
  have hb012 := bx_trans hbf hb12
  have hz12 := hzf.below hb12 hzf.lt
  go_wp2_with (first
    | ((with_reducible refine wpAtC ?_); refine wpList_store_agg rfl _ _ _ rfl _ _ rfl #[va, vb] rfl (aggCl va vb) hz12 (Nat.le_refl _) (by intro v hv; simp at hv; rcases hv with rfl | rfl <;> assumption) ?_; intro w13 hp13; simp only [Act.put]))
  refine bodyPost_ret (results_h2 (cs := [va, vb]) rfl rfl (aggCl va vb) (blk_cells hp13.blk)) rfl ⟨bx_put hb012 hp13 hg12w, ?_⟩
  rcases hbo with ⟨rfl, rfl, rfl, h⟩ | ⟨rfl, k, h1, h2, h3, h4, h5⟩
  · exact .inl ⟨.inr h, rfl⟩
  · exact .inr ⟨hgo, k, va, vb, h1, h2, h3, own_put h4 hz12 hp13 (by decide), own_put h5 hz12 hp13 (by decide), rfl⟩
end Go.Proofs.YtgaefejblmnklaaDoor
