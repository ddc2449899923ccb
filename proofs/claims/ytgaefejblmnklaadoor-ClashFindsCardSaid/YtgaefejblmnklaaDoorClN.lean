
/- Clashes: chained of any proof; Chained. -/
import Derived.Test.YtgaefejblmnklaaDoorClM
namespace Go.Proofs.YtgaefejblmnklaaDoor
open Go.RowKit
set_option linter.unusedVariables false
theorem builtKy (m : Nat) {h : List UInt8} (hl : h.length = 32) : Tryd.prog.built tKy [(0, .int .u64 (m : Int)), (1, .agg (h.map cb).toArray)] = some (kcell m h).toArray := by
  have hz : (Tryd.prog.info? tKy).map (·.zero) = some (some (.agg (kcell 0 (List.replicate 32 0)).toArray)) := by kernel_rfl
  have := built_struct (P := Tryd.prog) (t := tKy) (vs := [.int .u64 (m : Int), .agg (h.map cb).toArray]) (sizes := [1, 32]) Tryd.underlying43 hz (by kernel_rfl) (by
    show [1, (h.map cb).toArray.size] = [1, 32]
    rw [List.size_toArray, List.length_map, hl]) (by
    show (flat [.int .u64 (m : Int), .agg (h.map cb).toArray]).length = (kcell 0 (List.replicate 32 0)).toArray.size
    simp [flat, Value.cells, kcell, hl])
  have e : flat [.int .u64 (m : Int), .agg (h.map cb).toArray] = kcell m h := by simp [flat, Value.cells, kcell]
  rw [e] at this
  exact this
theorem zeroKy : ZeroT Tryd.prog tKy (.agg (kcell 0 (List.replicate 32 0)).toArray) := zeroT_of (by kernel_rfl)
theorem kcell_len (m : Nat) {h : List UInt8} (hl : h.length = 32) : (kcell m h).length = 33 := by unfold kcell; rw [List.length_cons, List.length_map, hl]
theorem aggKy (m : Nat) {h : List UInt8} (hl : h.length = 32) : AggT Tryd.prog tKy (kcell m h).length := by
  rw [kcell_len m hl]
  exact aggT_of Tryd.underlying43 rfl (by kernel_rfl)
theorem aggKyS (m : Nat) {h : List UInt8} (hl : h.length = 32) : AggT Tryd.prog tKy (kcell m h).toArray.size := by rw [List.size_toArray]; exact aggKy m hl
theorem oneKy (m : Nat) (h : List UInt8) : ∀ v ∈ (kcell m h).toArray.toList, v.oneCell' = true := by
  intro v hv
  have hv : v ∈ kcell m h := by simpa using hv
  unfold kcell at hv
  rcases List.mem_cons.1 hv with rfl | hv
  · rfl
  · exact one_cb h v hv
theorem szKy (m m' : Nat) {h h' : List UInt8} (hl : h.length = 32) (hl' : h'.length = 32) : 0 + (kcell m h).toArray.size ≤ (Value.agg (kcell m' h').toArray).cells.size := by
  show 0 + (kcell m h).toArray.size ≤ (kcell m' h').toArray.size
  rw [List.size_toArray, List.size_toArray, kcell_len m hl, kcell_len m' hl']
  exact Nat.le_refl _
theorem splKy (m m' : Nat) {h h' : List UInt8} (hl : h.length = 32) (hl' : h'.length = 32) : spl (Value.agg (kcell m' h').toArray).cells 0 (kcell m h).toArray.toList = (kcell m h).toArray := spl_whole (by
  show (kcell m' h').toArray.size = (kcell m h).toArray.size
  rw [List.size_toArray, List.size_toArray, kcell_len m hl, kcell_len m' hl'])
theorem gives_buildKy {o : Oper} {a : Act} {w : World} {S : Value → World → Prop} {x y : Operand} (ho : o.op = .build tKy #[(0, x), (1, y)]) {m : Nat} {h : List UInt8} (hx : a.eval x = .int .u64 (m : Int)) (hy : a.eval y = .agg (h.map cb).toArray) (hl : h.length = 32) (hs : S (.agg (kcell m h).toArray) w) : gives Tryd.prog o a w S :=
  gives_build tKy _ ho [.int .u64 (m : Int), .agg (h.map cb).toArray] (by simp [hx, hy]) (builtKy m hl) hs
theorem chained_any (w : World) (hL : Laid w) (wide : Int) {m n : Nat} (hm : m < 18446744073709551616) (hn : n < 18446744073709551616) {old : List UInt8} (ho : old.length = 32)
    {Ap : Option Addr} {c p : Nat} {path : List (List UInt8)} (hpl : path.length = p) (h32 : ∀ x ∈ path, x.length = 32) (hrp : Rd w w.heap.size Ap (path.flatten.map cb)) (hc : p ≤ c) (hc2 : c ≤ 9223372036854775807) (hp : p ≤ 1000) :
    Calls Tryd.prog 22 #[.int .i64 wide, .agg (kcell m old).toArray, .int .u64 (n : Int), .slice Ap p c] w fun e w' =>
      ∃ vo vs, e = .returned (.tuple #[vo, .agg (((chainedL wide m n old path).2.1 ++ (chainedL wide m n old path).2.2).map cb).toArray, .int .i64 (chainedE m n p)]) ∧ w'.ownsRow w.heap.size tBy 1 vo (chainedL wide m n old path).1.length vs ∧ Owns w' w.heap.size vs (chainedL wide m n old path).1 ∧ Below w.heap.size w w' := by
  by_cases hE : chainedE m n p = 0
  · obtain ⟨h1, h2, h3⟩ := chainedE_ok hE
    refine (chained_in w hL wide h1 h2 hn ho hpl h32 hrp hc hc2 hp h3).mono ?_
    have hV : chainedL wide m n old path = chL wide (steps m n) (cfst m n old path) (crest m n path) := by unfold chainedL; rw [hpl, if_pos hE]
    rw [hV, hE]
    exact fun e w' h => h
  · refine (chained_no w wide hm hn ho Ap c p hp hE).mono ?_
    have hV : chainedL wide m n old path = ([], zeroL, zeroL) := by unfold chainedL; rw [hpl, if_neg hE]
    rw [hV]
    rintro e w' ⟨rfl, hb⟩
    exact ⟨_, [], rfl, nil_ownC _ _ _ _, fun k v l h1 _ => by simp at h1, hb⟩
theorem pair_fst {w : World} {g : Nat} {X Y : List UInt8} (hb : Blk w g tHH ((X ++ Y).map cb).toArray) : ∀ j v, (X.map cb)[j]? = some v → w.cell? ⟨g, 0 + j, none⟩ = some v := by
  intro j v hv
  refine blk_cells hb j v ?_
  have hj := (List.getElem?_eq_some_iff.1 hv).1
  rw [List.map_append, List.getElem?_append_left hj]
  exact hv
theorem pair_snd {w : World} {g : Nat} {X Y : List UInt8} (hX : X.length = 32) (hb : Blk w g tHH ((X ++ Y).map cb).toArray) : ∀ j v, (Y.map cb)[j]? = some v → w.cell? ⟨g, 32 + j, none⟩ = some v := by
  intro j v hv
  have := blk_cells hb (32 + j) v (by
    rw [List.map_append, List.getElem?_append_right (by rw [List.length_map, hX]; omega), List.length_map, hX, Nat.add_sub_cancel_left]
    exact hv)
  rwa [Nat.zero_add] at this
theorem results_hht {P : Program} {fn : Func} {p q r : Tmp} {ty : TypeId} (h : fn.results = #[.cell p ty, .cell q ty, .tmp r]) {tmps : Array Value} {w : World} {g off g' off' : Nat} {cs cs' : List Value}
    (hp : tmps.getD p undef = .pointer (some ⟨g, off, none⟩)) (hq : tmps.getD q undef = .pointer (some ⟨g', off', none⟩)) (hT : AggT P ty cs.length) (hT' : AggT P ty cs'.length) (hc : ∀ j v, cs[j]? = some v → w.cell? ⟨g, off + j, none⟩ = some v) (hc' : ∀ j v, cs'[j]? = some v → w.cell? ⟨g', off' + j, none⟩ = some v) :
    (results fn tmps).run P w = .ok (.tuple #[.agg cs.toArray, .agg cs'.toArray, tmps.getD r undef]) w := by
  have hp' : tmps[p]?.getD undef = .pointer (some ⟨g, off, none⟩) := by simpa using hp
  have hq' : tmps[q]?.getD undef = .pointer (some ⟨g', off', none⟩) := by simpa using hq
  simp [results, h, hp', hq', asAddr, run_load_agg hT hc, run_load_agg hT' hc']
set_option maxRecDepth 100000 in
set_option maxHeartbeats 1000000 in
theorem Chained_any (w : World) (hL : Laid w) (wide : Int) {m n : Nat} (hm : m < 18446744073709551616) (hn : n < 18446744073709551616) {old : List UInt8} (ho : old.length = 32)
    {Ap : Option Addr} {c p : Nat} {path : List (List UInt8)} (hpl : path.length = p) (h32 : ∀ x ∈ path, x.length = 32) (hrp : Rd w w.heap.size Ap (path.flatten.map cb)) (hc : p ≤ c) (hc2 : c ≤ 9223372036854775807) (hp : p ≤ 1000) :
    Calls Tryd.prog 15 #[.int .i64 wide, .agg (kcell m old).toArray, .int .u64 (n : Int), .slice Ap p c] w fun e w' =>
      e = .returned (.tuple #[.agg ((chainedL wide m n old path).2.1.map cb).toArray, .agg ((chainedL wide m n old path).2.2.map cb).toArray, .int .i64 (chainedE m n p)]) ∧ Below w.heap.size w w' := by
  have HR := hid (fun (w' : World) (hb : Below w.heap.size w w') => chained_any w' (hL.below hb) wide hm hn ho hpl h32 ((hrp.below hb).more hb.size) hc hc2 hp)
  obtain ⟨hX, hY⟩ := chainedL_hash (wide := wide) (m := m) (n := n) ho h32
  obtain ⟨E, hE⟩ : ∃ E, E = chainedE m n p := ⟨_, rfl⟩
  rw [← hE] at HR ⊢
  generalize chainedL wide m n old path = V at *
  obtain ⟨X, hXe⟩ : ∃ X, X = V.2.1 := ⟨_, rfl⟩
  obtain ⟨Y, hYe⟩ : ∃ Y, Y = V.2.2 := ⟨_, rfl⟩
  rw [← hXe, ← hYe] at HR ⊢
  rw [← hXe] at hX
  rw [← hYe] at hY
  have hxy : (X ++ Y).length = 64 := by rw [List.length_append, hX, hY]
  obtain ⟨H, hH⟩ : ∃ H, H = X ++ Y := ⟨_, rfl⟩
  rw [← hH] at HR hxy
  have HH := hid hH
  have HXY := hid hxy
  have hk0 : Blk (w.alloc (.cells (kcell m old).toArray tKy)) w.heap.size tKy (kcell m old).toArray := Blk.new w _ _
  have hb1 : Below w.heap.size w (w.alloc (.cells (kcell m old).toArray tKy)) := bx_alloc (Below.refl _ _) _
  have hak := aggKy m ho
  clear hE hXe hYe hL hrp hpl h32 hxy hH
  go_enter Tryd.func15, Tryd.ntmps15
  go_wp2_with (first
    | ((with_reducible refine wpAtC ?_); refine wpList_alloc (w := w.alloc (.cells (kcell m old).toArray tKy)) rfl _ rfl zeroH ?_; intro g8 w2 hg8 hg8' hz8 hb2; simp only [Act.put, List.setIfInBounds_toArray, List.set_cons_succ, List.set_cons_zero])
    | ((with_reducible refine wpAtC ?_); refine wpList_alloc (w := w2) rfl _ rfl zeroH ?_; intro g9 w3 hg9 hg9' hz9 hb3; have hk3 := (hk0.below hb2 hk0.lt).below hb3 (hk0.below hb2 hk0.lt).lt; have ck := blk_cells hk3; simp only [Act.put, List.setIfInBounds_toArray, List.set_cons_succ, List.set_cons_zero])
    | ((with_reducible refine wpAtC ?_); refine wpList_load_agg rfl _ _ rfl _ _ rfl (kcell m old) hak ck ?_; simp only [Act.put, List.setIfInBounds_toArray, List.set_cons_succ, List.set_cons_zero]))
  have hb03 := bx_trans (bx_trans hb1 hb2) hb3
  have hz83 := hz8.below hb3 hz8.lt
  refine (HR.out w3 hb03).mono ?_
  rintro e w4 ⟨vo, vs, rfl, hown, _, hb4⟩
  have hb04 := bx_trans hb03 hb4
  have hz84 := hz83.below hb4 hz83.lt
  have hz94 := hz9.below hb4 hz9.lt
  have hs1 : w.heap.size + 1 = (w.alloc (.cells (kcell m old).toArray tKy)).heap.size := by simp
  have hg89 : g8 < g9 := Nat.lt_of_lt_of_le hg8' hg9
  have hg8w : w.heap.size ≤ g8 := by omega
  obtain ⟨A4, c4, rfl, _, _, _⟩ := own_form hown
  clear hown hz8 hz9 hz83 hk3 ck hk0 hb1 hb2 hb3 hb4 hb03 hs1
  have hXY := HXY.out
  go_wp2_with (first
    | ((with_reducible refine wpAtC ?_); refine wpList_alloc (w := w4) rfl _ rfl zeroHH ?_; intro g12 w5 hg12 hg12' hz12 hb5; simp only [Act.put, List.setIfInBounds_toArray, List.set_cons_succ, List.set_cons_zero])
    | ((with_reducible refine wpAtC ?_); refine wpList_store_agg rfl _ _ _ rfl _ _ rfl (H.map cb).toArray rfl (aggHHS hXY) hz12 (szHH hXY) (one_cbA _) ?_; intro w6 hp6; simp only [Act.put]; rw [splHH hXY] at hp6))
  have hb46 := bx_put hb5 hp6 hg12
  have hb06 := bx_trans hb04 hb46
  have hz86 := hz84.below hb46 hz84.lt
  have hz96 := hz94.below hb46 hz94.lt
  have hx6 := hp6.blk
  have hg129 : g9 < g12 := Nat.lt_of_lt_of_le hz94.lt hg12
  clear hz84 hz94 hb5 hp6 hz12 hg12' hb46 hb04
  have hbd : Below w6.heap.size w6 w6.drew := bx_drew (Below.refl _ _)
  have hz8d := hz86.below hbd hz86.lt
  have hz9d := hz96.below hbd hz96.lt
  have hxd := hx6.below hbd hx6.lt
  have hb0d := bx_trans hb06 hbd
  have haX := aggHL hX
  have haY := aggHL hY
  have HX12 : Hid (∀ (f5 f6 : Option Value) (W : World), (match [f5, f6] with | [some _, some _] => ∃ w1, Put w6.drew w1 g8 tH (X.map cb).toArray ∧ Put w1 W g9 tH (Y.map cb).toArray | [some _, none] => Put w6.drew W g8 tH (X.map cb).toArray | _ => W = w6.drew) → Blk W g12 tHH (H.map cb).toArray) := hid (by
    intro f5 f6 W hW
    cases f5 with
    | none => rw [show W = w6.drew from hW]; exact hxd
    | some v5 =>
      cases f6 with
      | none => exact Put.other (show Put w6.drew W g8 tH (X.map cb).toArray from hW) hxd (by omega)
      | some v6 =>
        obtain ⟨w1, p1, p2⟩ : ∃ w1, Put w6.drew w1 g8 tH (X.map cb).toArray ∧ Put w1 W g9 tH (Y.map cb).toArray := hW
        exact p2.other (p1.other hxd (by omega)) (by omega))
  refine wp_flowK (by kernel_rfl) [0, 1, 0, 4, 0, 3, 47, 127] 7 [false, false, false, false, false, false, false, false, false, false, false, false, false, false, false, false, false, false, false, false, false, false, false, true, true, true, true, true] (by kernel_rfl) (by decide) (by kernel_rfl) [KP.eq (.pointer (some ⟨g12, 0, none⟩)), KP.eq (.agg (X.map cb).toArray), KP.eq (.pointer (some ⟨g12, 32, none⟩)), KP.eq (.agg (Y.map cb).toArray), KP.eq (.int .i64 E), KP.any, KP.any] [5, 6] (fun ks w' => match ks with | [some _, some _] => ∃ w1, Put w6.drew w1 g8 tH (X.map cb).toArray ∧ Put w1 w' g9 tH (Y.map cb).toArray | [some _, none] => Put w6.drew w' g8 tH (X.map cb).toArray | _ => w' = w6.drew) ?_ ?_ ?_
  · exact rfl
  · refine allFrom_cons ?_ ?_
    · refine stepK_by (by decide) ?_
      intro f_ a_ w_ hM_ hk_
      have h12 : a_.eval (.tmp 12) = .pointer (some ⟨g12, 0, none⟩) := hk_.old 12 (by kernel_rfl)
      have k5 := hk_.later 5 _ (by kernel_rfl) rfl
      have k6 := hk_.later 6 _ (by kernel_rfl) rfl
      clear hk_
      refine flow_plain rfl ?_
      refine gives_keep hM_ ?_
      unfold gives
      have hc_ : ∀ v, a_.eval (.const v) = v := fun _ => rfl
      have hn_ : ∀ f, a_.eval (.func f) = .func (.func f) #[] #[] := fun _ => rfl
      generalize a_.eval = ρ_ at *
      go_simp
      exact ⟨rfl, rfl⟩
    refine allFrom_cons ?_ ?_
    · refine stepK_by (by decide) ?_
      intro f_ a_ w_ hM_ hk_
      have h23 : a_.eval (.tmp 23) = (.pointer (some ⟨g12, 0, none⟩)) := hk_.got 0 23 _ (by kernel_rfl) rfl rfl
      have k5 := hk_.later 5 _ (by kernel_rfl) rfl
      have k6 := hk_.later 6 _ (by kernel_rfl) rfl
      clear hk_
      refine flow_plain rfl ?_
      have hM := hM_
      simp only [List.map_cons, List.map_nil, k5, k6] at hM
      exact gives_load_agg rfl h23 haX (pair_fst (Y := Y) (by rw [← HH.out]; exact HX12.out none none _ hM)) ⟨hM_, rfl⟩
    refine allFrom_cons ?_ ?_
    · refine stepK_by (by decide) ?_
      intro f_ a_ w_ hM_ hk_
      have h12 : a_.eval (.tmp 12) = .pointer (some ⟨g12, 0, none⟩) := hk_.old 12 (by kernel_rfl)
      have k6 := hk_.later 6 _ (by kernel_rfl) rfl
      clear hk_
      refine flow_plain rfl ?_
      refine gives_keep hM_ ?_
      unfold gives
      have hc_ : ∀ v, a_.eval (.const v) = v := fun _ => rfl
      have hn_ : ∀ f, a_.eval (.func f) = .func (.func f) #[] #[] := fun _ => rfl
      generalize a_.eval = ρ_ at *
      go_simp
      exact ⟨rfl, rfl⟩
    refine allFrom_cons ?_ ?_
    · refine stepK_by (by decide) ?_
      intro f_ a_ w_ hM_ hk_
      have h25 : a_.eval (.tmp 25) = (.pointer (some ⟨g12, 32, none⟩)) := hk_.got 2 25 _ (by kernel_rfl) rfl rfl
      have k6 := hk_.later 6 _ (by kernel_rfl) rfl
      clear hk_
      refine flow_plain rfl ?_
      have hM := hM_
      simp only [List.map_cons, List.map_nil, k6] at hM
      exact gives_load_agg rfl h25 haY (pair_snd hX (by rw [← HH.out]; exact HX12.out _ none _ hM)) ⟨hM_, rfl⟩
    refine allFrom_cons ?_ ?_
    · refine stepK_by (by decide) ?_
      intro f_ a_ w_ hM_ hk_
      have h13 : a_.eval (.tmp 13) = .int .i64 E := hk_.old 13 (by kernel_rfl)
      clear hk_
      refine flow_plain rfl ?_
      exact gives_move rfl ⟨hM_, h13⟩
    refine allFrom_cons ?_ ?_
    · intro f_ a_ w_ hM_ hk_
      have h8 : a_.eval (.tmp 8) = .pointer (some ⟨g8, 0, none⟩) := hk_.old 8 (by kernel_rfl)
      have h24 : a_.eval (.tmp 24) = (.agg (X.map cb).toArray) := hk_.got 1 24 _ (by kernel_rfl) rfl rfl
      have k5 : f_ 5 = none := hk_.un
      have k6 := hk_.later 6 _ (by kernel_rfl) rfl
      clear hk_
      simp only [List.map_cons, List.map_nil, k5, k6] at hM_
      simp only [List.map_cons, List.map_nil, upd_same, upd_ne f_ _ (show (6 : Nat) ≠ 5 by decide), k6]
      refine flow_plain rfl ?_
      exact gives_store_agg rfl h8 h24 (aggHS hX) (by rw [show w_ = w6.drew from hM_]; exact hz8d) (szH hX) (one_cbA _) fun w1 hp => ⟨by rw [splH hX, show w_ = w6.drew from hM_] at hp; exact hp, trivial⟩
    refine allFrom_cons ?_ ?_
    · intro f_ a_ w_ hM_ hk_
      have h9 : a_.eval (.tmp 9) = .pointer (some ⟨g9, 0, none⟩) := hk_.old 9 (by kernel_rfl)
      have h26 : a_.eval (.tmp 26) = (.agg (Y.map cb).toArray) := hk_.got 3 26 _ (by kernel_rfl) rfl rfl
      obtain ⟨x5, k5⟩ := hk_.done 5 _ (by kernel_rfl) rfl
      have k6 : f_ 6 = none := hk_.un
      clear hk_
      simp only [List.map_cons, List.map_nil, k5, k6] at hM_
      simp only [List.map_cons, List.map_nil, upd_same, upd_ne f_ _ (show (5 : Nat) ≠ 6 by decide), k5]
      refine flow_plain rfl ?_
      exact gives_store_agg rfl h9 h26 (aggHS hY) (Put.other (show Put w6.drew w_ g8 tH (X.map cb).toArray from hM_) hz9d (by omega)) (szH hY) (one_cbA _) fun w1 hp => ⟨⟨_, hM_, by rw [splH hY] at hp; exact hp⟩, trivial⟩
    exact allFrom_nil
  intro f_ y_ w_ hM_ hf_ hd_
  have h23 : f_ 23 = (.pointer (some ⟨g12, 0, none⟩)) := (hf_ 0 23 _ (by decide) rfl rfl).1
  have h24 : f_ 24 = (.agg (X.map cb).toArray) := (hf_ 1 24 _ (by decide) rfl rfl).1
  have h25 : f_ 25 = (.pointer (some ⟨g12, 32, none⟩)) := (hf_ 2 25 _ (by decide) rfl rfl).1
  have h26 : f_ 26 = (.agg (Y.map cb).toArray) := (hf_ 3 26 _ (by decide) rfl rfl).1
  have h27 : f_ 27 = (.int .i64 E) := (hf_ 4 27 _ (by decide) rfl rfl).1
  obtain ⟨x5, k5⟩ := hd_ 5 (by decide)
  obtain ⟨x6, k6⟩ := hd_ 6 (by decide)
  simp only [List.map_cons, List.map_nil, k5, k6] at hM_
  simp only [mix, List.drop_succ_cons, List.drop_zero, h23, h24, h25, h26, h27]
  clear hf_ hd_ h23 h24 h25 h26 h27 k5 k6
  obtain ⟨w7, p7, p8⟩ := hM_
  go_wp2_with fail
  exact bodyPost_ret (results_hht rfl rfl rfl (aggHL hX) (aggHL hY) (blk_cells (p8.other p7.blk (by omega))) (blk_cells p8.blk)) rfl ⟨rfl, bx_put (bx_put hb0d p7 hg8w) p8 (by omega)⟩
end Go.Proofs.YtgaefejblmnklaaDoor
