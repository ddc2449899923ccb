/- ShaText: its walk. -/
import Derived.Test.YtebabkccpbdphaaDoorShaLaw2
namespace Go.Proofs.YtebabkccpbdphaaDoor
open Go.RowKit
set_option linter.unusedVariables false
theorem dig_toNat {q : Nat} (h : q < 16) : (dig q).toNat = if q < 10 then 48 + q else 87 + q := by
  unfold dig
  split <;> rw [UInt8.toNat_ofNat'] <;> omega
theorem dig_inj {a b : Nat} (ha : a < 16) (hb : b < 16) (h : dig a = dig b) : a = b := by
  have := congrArg UInt8.toNat h
  rw [dig_toNat ha, dig_toNat hb] at this
  split at this <;> split at this <;> omega
theorem text_inj : ∀ {x y : List UInt8}, x.length = y.length → textL x = textL y → x = y
  | [], [], _, _ => rfl
  | a :: x, b :: y, hl, h => by
    simp only [textL, List.flatMap_cons, List.cons_append, List.nil_append, List.cons.injEq] at h
    obtain ⟨h1, h2, h3⟩ := h
    have ha := a.toNat_lt
    have hb := b.toNat_lt
    have e1 := dig_inj (by omega) (by omega) h1
    have e2 := dig_inj (by omega) (by omega) h2
    have e : a = b := UInt8.toNat_inj.1 (by omega)
    rw [e, text_inj (by simpa using hl) h3]
theorem text_eq {x y : List UInt8} (hx : x.length = 32) (hy : y.length = 32) : (textL x == textL y) = (x == y) := by
  rw [Bool.eq_iff_iff, beq_iff_eq, beq_iff_eq]
  exact ⟨text_inj (hx.trans hy.symm), fun e => by rw [e]⟩
def nib (x : List UInt8) (i : Nat) : Nat := if i % 2 = 1 then (x.getD (i / 2) 0).toNat % 16 else (x.getD (i / 2) 0).toNat / 16
theorem nib_lt (x : List UInt8) (i : Nat) : nib x i < 16 := by
  unfold nib
  have := (x.getD (i / 2) 0).toNat_lt
  split <;> omega
theorem textL_get : ∀ (x : List UInt8) (i : Nat), i < 2 * x.length → (textL x)[i]? = some (dig (nib x i))
  | a :: x, 0, _ => rfl
  | a :: x, 1, _ => rfl
  | a :: x, i + 2, h => by
    have ih := textL_get x i (by simp at h; omega)
    simp only [textL, List.flatMap_cons, List.cons_append, List.nil_append, List.getElem?_cons_succ] at *
    rw [ih]
    unfold nib
    rw [show (i + 2) / 2 = i / 2 + 1 from by omega, show (i + 2) % 2 = i % 2 from by omega]
    rfl
theorem str_get {s : List UInt8} {i : Nat} {c : UInt8} (h : s[i]? = some c) (w : World) : (Instr.index 9 (.string ⟨s.toArray⟩) (.int .i64 (i : Int))).run Tryd.prog w = .ok (.int .u8 (c.toNat : Int)) w := by
  have hi : i < s.length := (List.getElem?_eq_some_iff.1 h).1
  have hsz : (⟨s.toArray⟩ : ByteArray).size = s.length := by simp [ByteArray.size]
  rw [run_index_string w 9 _ .i64 (i : Int) Tryd.underlying9, dif_pos (by rw [hsz]; omega)]
  have hc : s[i] = c := by
    rw [List.getElem?_eq_getElem hi] at h
    exact Option.some.inj h
  simp only [Int.toNat_natCast]
  rw [← hc]
  rfl
theorem wpList_index {P : Program} {ops : Array Oper} {rest : List Oper} {o : Oper} {a : Act} {w : World} {Q : Exit → Act → World → Prop} (hgd : o.guard = none) (t : TypeId) (x y : Operand) (ho : o.op = .index t x y) (vx vy v : Value) (hx : a.eval x = vx) (hy : a.eval y = vy)
    (hr : (Instr.index t vx vy).run P w = .ok v w) (h : wpList P ops Q rest (a.put o.dst v) w) : wpList P ops Q (o :: rest) a w := by
  refine wpList_val (v := v) (w' := w) hgd ?_ h
  unfold execOp
  simp only [ho, hx, hy, Sem.run_bind, hr, Result.andThen_ok, Sem.run_pure]
theorem str_size {s : List UInt8} {n : Nat} (h : s.length = n) : (⟨s.toArray⟩ : ByteArray).size = n := by simp [ByteArray.size, h]
set_option maxRecDepth 100000 in
set_option maxHeartbeats 1000000 in
/-- From the two boxes on. -/
theorem ShaText_walk (w : World) (hL : Laid w) (x : List UInt8) (hx : x.length = 32) (y0 : List UInt8) (hy0 : y0.length = 32) (same : Bool) :
    Calls Tryd.prog 4 #[.agg (x.map cb).toArray, .agg (y0.map cb).toArray, .bool same] w fun e w' => e = .returned (.bool true) ∧ Below w.heap.size w w' := by
  have HL := hid hL
  clear hL
  have hA : Blk ((w.alloc (.cells (x.map cb).toArray 26)).alloc (.cells (y0.map cb).toArray 26)) w.heap.size 26 (x.map cb).toArray := (Blk.new w _ _).alloc _
  have hB : Blk ((w.alloc (.cells (x.map cb).toArray 26)).alloc (.cells (y0.map cb).toArray 26)) (w.heap.size + 1) 26 (y0.map cb).toArray := by
    have := Blk.new (w.alloc (.cells (x.map cb).toArray 26)) 26 (y0.map cb).toArray
    rwa [World.size_alloc] at this
  have hb0 : Below w.heap.size w ((w.alloc (.cells (x.map cb).toArray 26)).alloc (.cells (y0.map cb).toArray 26)) := bx_alloc (bx_alloc (Below.refl _ _) _) _
  have hs0 : ((w.alloc (.cells (x.map cb).toArray 26)).alloc (.cells (y0.map cb).toArray 26)).heap.size = w.heap.size + 2 := by simp
  go_enter Tryd.func4, Tryd.ntmps4
  go_wp2_with fail
  generalize hwb : (w.alloc (.cells (x.map cb).toArray 26)).alloc (.cells (y0.map cb).toArray 26) = wb at *
  refine (awake_any wb (HL.out.below hb0)).mono ?_
  rintro e w1 ⟨rfl, hb1⟩
  have hA1 := hA.below hb1 (by omega)
  have hB1 := hB.below hb1 (by omega)
  have hb01 := bx_trans hb0 hb1
  have hs1 := hb1.size
  have hgbw : w.heap.size + 1 < w1.heap.size := by omega
  have hgbw2 : w.heap.size ≤ w.heap.size + 1 := by omega
  obtain ⟨gb, hga⟩ : ∃ gb, gb = w.heap.size + 1 := ⟨_, rfl⟩
  rw [← hga] at hB1 hgbw hgbw2 ⊢
  have hne : w.heap.size ≠ gb := by omega
  clear hA hB hb0 hb1 hwb hga
  have hxS := aggHS hx
  have hxL := aggHL hx
  have hszb : 0 + (x.map cb).toArray.size ≤ (y0.map cb).toArray.size := by simp [hx, hy0]
  cases same with
  | false =>
    go_wp2_with (first
      | (refine wpList_load_agg rfl _ _ rfl _ _ rfl (x.map cb) hxL (blk_cells hA1) ?_))
    refine (Text_any w1 hx).mono ?_
    rintro e wf ⟨rfl, hbt⟩
    have hAf := hA1.below hbt hA1.lt
    have hBf := hB1.below hbt hB1.lt
    have hbf := bx_trans hb01 hbt
    have hy := hy0
    generalize y0 = y at *
    clear hA1 hB1 hb01 hbt hs1 hs0
    have htl : (textL x).length = 64 := by rw [textL_length, hx]
    have hssz := str_size htl
    have hnum : ∀ (i : Nat), i < 64 → ∀ w : World, (Instr.index 9 (.string ⟨(textL x).toArray⟩) (.int .i64 (i : Int))).run Tryd.prog w = .ok (.int .u8 ((dig (nib x i)).toNat : Int)) w := fun i hi w => str_get (textL_get x i (by omega)) w
    have hgetx : ∀ (W : World), Blk W w.heap.size 26 (x.map cb).toArray → ∀ a : Nat, a < 32 → W.cell? ⟨w.heap.size, a, none⟩ = some (.int .u8 ((x.getD a 0).toNat : Int)) := fun W hW a ha => by
      rw [hW.cell]
      simp [cb, hx, ha, List.getD]
    have HNUM := hid hnum
    have HGX := hid hgetx
    have HTE := hid (text_eq hx hy)
    have HTE2 := hid (fun w => eq_hash x y hx hy w)
    clear hnum hgetx
    obtain ⟨S, hS⟩ : ∃ S, S = textL x := ⟨_, rfl⟩
    rw [← hS] at hssz HNUM HTE ⊢
    clear hS htl
    have hbW := hbf.size
    go_wp2
    go_loopw [9] (fun j wr => ∃ i : Nat, i ≤ 64 ∧ j = .int .i64 i ∧ Below wf.heap.size wf wr) (fun j _ => 64 - (intOf j).toNat)
    case atStart => exact ⟨0, by omega, rfl, Below.refl _ _⟩
    case round =>
      obtain ⟨i, hi, rfl, hbr⟩ := hrel
      have hAr := hAf.below hbr hAf.lt
      by_cases hlt : i < 64
      · have hidx := HNUM.out i hlt wr
        obtain ⟨a, ha⟩ : ∃ a, a = i / 2 := ⟨_, rfl⟩
        obtain ⟨r, hr⟩ : ∃ r, r = i % 2 := ⟨_, rfl⟩
        have hqa : (i : Int).tdiv 2 = (a : Int) := (Int.tdiv_eq_ediv_of_nonneg (by omega)).trans (by omega)
        have hrb : (i : Int).tmod 2 = (r : Int) := (Int.tmod_eq_emod_of_nonneg (by omega)).trans (by omega)
        have ha32 : (a : Int) < 32 := by omega
        have hcell := HGX.out wr hAr a (by omega)
        have hnib : nib x i = if r = 1 then (x.getD a 0).toNat % 16 else (x.getD a 0).toNat / 16 := by rw [hr, ha]; rfl
        have hn16 := nib_lt x i
        have hdn := dig_toNat hn16
        have hx8 := (x.getD a 0).toNat_lt
        have hsh := shr4_u8 (x.getD a 0)
        have han := and15_u8 (x.getD a 0)
        have hr2 : r = 0 ∨ r = 1 := by omega
        generalize nib x i = q at *
        generalize (dig q).toNat = cn at *
        generalize x.getD a 0 = xa at *
        have hlo : xa.toNat % 16 < 16 := by omega
        have hhi : xa.toNat / 16 < 16 := by omega
        generalize xa.toNat % 16 = lo at *
        generalize xa.toNat / 16 = hi4 at *
        clear ha hr
        by_cases hq : q < 10
        · rw [if_pos hq] at hdn
          have hc97 : ¬ (97 : Int) ≤ (cn : Int) := by omega
          have h48 : (cn : Int) - 48 = (q : Int) := by omega
          rcases hr2 with rfl | rfl
          · have hnib2 : q = hi4 := hnib
            subst hnib2
            clear hnib hdn hq
            go_wp2_with (refine wpList_index rfl _ _ _ rfl _ _ _ rfl rfl hidx ?_)
            go_roundw
            case rel => exact ⟨i + 1, by omega, by go_num, hbr⟩
            case measure => simp [intOf]; omega
          · have hnib2 : q = lo := hnib
            subst hnib2
            clear hnib hdn hq
            go_wp2_with (refine wpList_index rfl _ _ _ rfl _ _ _ rfl rfl hidx ?_)
            go_roundw
            case rel => exact ⟨i + 1, by omega, by go_num, hbr⟩
            case measure => simp [intOf]; omega
        · rw [if_neg hq] at hdn
          have hc97 : (97 : Int) ≤ (cn : Int) := by omega
          obtain ⟨n2, hn2⟩ : ∃ n2 : Nat, n2 = q - 10 := ⟨_, rfl⟩
          obtain ⟨n3, hn3⟩ : ∃ n3 : Nat, n3 = cn - 48 := ⟨_, rfl⟩
          have h48 : (cn : Int) - 48 = (n3 : Int) := by omega
          have h97 : (cn : Int) - 97 = (n2 : Int) := by omega
          have h10 : (n2 : Int) + 10 = (q : Int) := by omega
          have hn29 : n2 < 10 := by omega
          have hn39 : n3 < 256 := by omega
          rcases hr2 with rfl | rfl
          · have hnib2 : q = hi4 := hnib
            subst hnib2
            clear hnib hdn hq hn2 hn3
            go_wp2_with (refine wpList_index rfl _ _ _ rfl _ _ _ rfl rfl hidx ?_)
            go_roundw
            case rel => exact ⟨i + 1, by omega, by go_num, hbr⟩
            case measure => simp [intOf]; omega
          · have hnib2 : q = lo := hnib
            subst hnib2
            clear hnib hdn hq hn2 hn3
            go_wp2_with (refine wpList_index rfl _ _ _ rfl _ _ _ rfl rfl hidx ?_)
            go_roundw
            case rel => exact ⟨i + 1, by omega, by go_num, hbr⟩
            case measure => simp [intOf]; omega
      · have hBr := hBf.below hbr hBf.lt
        have hyL := aggHL hy
        have hbfin := hbf.trans (hbr.mono hbW)
        go_wp2_with fail
        refine wp_flow (by kernel_rfl) [0, 0, 2, 7, 0, 0, 48, 127, 255] 9 [false, false, false, false, false, false, true, false, false, false, false, false, false, false, false, false, false, false, false, false, false, false, false, false, false, false, false, false, false, false, false, false, false, false, false, false, false, false, false, false, false, false, false, false, false, false, false, false, false, false, false, false, false, false, false, false, false, true, true, true, true, true, true, true, true] (by kernel_rfl) (by decide) (by kernel_rfl) [FP.eq (.string ⟨S.toArray⟩), FP.eq (.agg (y.map cb).toArray), FP.eq (.string ⟨(textL y).toArray⟩), FP.eq (.bool (x == y)), FP.eq (.agg (x.map cb).toArray), FP.eq (.agg (y.map cb).toArray), FP.eq (.bool (x == y)), FP.eq (.bool true), FP.eq (.bool true)] ?_ ?_
        · refine allFrom_cons ?_ ?_
          · intro a_ w_ hk_
            have h8 : a_.eval (.tmp 8) = .string ⟨S.toArray⟩ := hk_.old 8 (by kernel_rfl)
            have hx_ := hk_.ext
            clear hk_
            refine flow_plain rfl ?_
            exact gives_move rfl ⟨Below.refl _ _, h8⟩
          refine allFrom_cons ?_ ?_
          · intro a_ w_ hk_
            have h4 : a_.eval (.tmp 4) = .pointer (some ⟨gb, 0, none⟩) := hk_.old 4 (by kernel_rfl)
            have hx_ := hk_.ext
            clear hk_
            refine flow_plain rfl ?_
            exact gives_load_agg _ _ rfl gb 0 h4 _ hyL (blk_cells (hBr.below hx_ hBr.lt)) ⟨Below.refl _ _, rfl⟩
          refine allFrom_cons ?_ ?_
          · intro a_ w_ hk_
            have h58 : a_.eval (.tmp 58) = (.agg (y.map cb).toArray) := hk_.got 1 58 _ (by kernel_rfl) rfl rfl
            have hx_ := hk_.ext
            clear hk_
            refine flow_plain rfl ?_
            unfold gives
            have hc_ : ∀ v, a_.eval (.const v) = v := fun _ => rfl
            have hn_ : ∀ f, a_.eval (.func f) = .func (.func f) #[] #[] := fun _ => rfl
            generalize a_.eval = ρ_ at *
            go_simp
            exact (Text_any _ hy).mono fun e w' ⟨h1, h2⟩ => ⟨_, h1, h2, rfl⟩
          refine allFrom_cons ?_ ?_
          · intro a_ w_ hk_
            have h57 : a_.eval (.tmp 57) = (.string ⟨S.toArray⟩) := hk_.got 0 57 _ (by kernel_rfl) rfl rfl
            have h59 : a_.eval (.tmp 59) = (.string ⟨(textL y).toArray⟩) := hk_.got 2 59 _ (by kernel_rfl) rfl rfl
            have hx_ := hk_.ext
            clear hk_
            refine flow_plain rfl ?_
            unfold gives
            have hc_ : ∀ v, a_.eval (.const v) = v := fun _ => rfl
            have hn_ : ∀ f, a_.eval (.func f) = .func (.func f) #[] #[] := fun _ => rfl
            generalize a_.eval = ρ_ at *
            go_simp
            exact ⟨Below.refl _ _, congrArg Value.bool HTE.out⟩
          refine allFrom_cons ?_ ?_
          · intro a_ w_ hk_
            have h3 : a_.eval (.tmp 3) = .pointer (some ⟨w.heap.size, 0, none⟩) := hk_.old 3 (by kernel_rfl)
            have hx_ := hk_.ext
            clear hk_
            refine flow_plain rfl ?_
            exact gives_load_agg _ _ rfl w.heap.size 0 h3 _ hxL (blk_cells (hAr.below hx_ hAr.lt)) ⟨Below.refl _ _, rfl⟩
          refine allFrom_cons ?_ ?_
          · intro a_ w_ hk_
            have h4 : a_.eval (.tmp 4) = .pointer (some ⟨gb, 0, none⟩) := hk_.old 4 (by kernel_rfl)
            have hx_ := hk_.ext
            clear hk_
            refine flow_plain rfl ?_
            exact gives_load_agg _ _ rfl gb 0 h4 _ hyL (blk_cells (hBr.below hx_ hBr.lt)) ⟨Below.refl _ _, rfl⟩
          refine allFrom_cons ?_ ?_
          · intro a_ w_ hk_
            have h61 : a_.eval (.tmp 61) = (.agg (x.map cb).toArray) := hk_.got 4 61 _ (by kernel_rfl) rfl rfl
            have h62 : a_.eval (.tmp 62) = (.agg (y.map cb).toArray) := hk_.got 5 62 _ (by kernel_rfl) rfl rfl
            have hx_ := hk_.ext
            clear hk_
            refine flow_plain rfl ?_
            unfold gives
            have hc_ : ∀ v, a_.eval (.const v) = v := fun _ => rfl
            have hn_ : ∀ f, a_.eval (.func f) = .func (.func f) #[] #[] := fun _ => rfl
            have heq := HTE2.out w_
            generalize a_.eval = ρ_ at *
            go_simp
            exact ⟨Below.refl _ _, rfl⟩
          refine allFrom_cons ?_ ?_
          · intro a_ w_ hk_
            have h60 : a_.eval (.tmp 60) = (.bool (x == y)) := hk_.got 3 60 _ (by kernel_rfl) rfl rfl
            have h63 : a_.eval (.tmp 63) = (.bool (x == y)) := hk_.got 6 63 _ (by kernel_rfl) rfl rfl
            have hx_ := hk_.ext
            clear hk_
            refine flow_plain rfl ?_
            unfold gives
            have hc_ : ∀ v, a_.eval (.const v) = v := fun _ => rfl
            have hn_ : ∀ f, a_.eval (.func f) = .func (.func f) #[] #[] := fun _ => rfl
            generalize a_.eval = ρ_ at *
            go_simp
            exact ⟨Below.refl _ _, rfl⟩
          refine allFrom_cons ?_ ?_
          · intro a_ w_ hk_
            have h64 : a_.eval (.tmp 64) = (.bool true) := hk_.got 7 64 _ (by kernel_rfl) rfl rfl
            have hx_ := hk_.ext
            clear hk_
            refine flow_plain rfl ?_
            exact gives_assign rfl ⟨Below.refl _ _, h64⟩
          exact allFrom_nil
        intro f_ w_ hx_ hf_
        have h57 : f_ 57 = (.string ⟨S.toArray⟩) := hf_ 0 57 _ (by decide) rfl rfl
        have h58 : f_ 58 = (.agg (y.map cb).toArray) := hf_ 1 58 _ (by decide) rfl rfl
        have h59 : f_ 59 = (.string ⟨(textL y).toArray⟩) := hf_ 2 59 _ (by decide) rfl rfl
        have h60 : f_ 60 = (.bool (x == y)) := hf_ 3 60 _ (by decide) rfl rfl
        have h61 : f_ 61 = (.agg (x.map cb).toArray) := hf_ 4 61 _ (by decide) rfl rfl
        have h62 : f_ 62 = (.agg (y.map cb).toArray) := hf_ 5 62 _ (by decide) rfl rfl
        have h63 : f_ 63 = (.bool (x == y)) := hf_ 6 63 _ (by decide) rfl rfl
        have h64 : f_ 64 = (.bool true) := hf_ 7 64 _ (by decide) rfl rfl
        have h6 : f_ 6 = (.bool true) := hf_ 8 6 _ (by decide) rfl rfl
        simp only [mix, List.drop_succ_cons, List.drop_zero, h57, h58, h59, h60, h61, h62, h63, h64, h6]
        clear h57 h58 h59 h60 h61 h62 h63 h64 h6
        clear hf_
        go_wp2
        go_ret
        exact ⟨rfl, bx_trans hbfin hx_⟩
  | true =>
    go_wp2_with (first
      | (refine wpList_load_agg rfl _ _ rfl _ _ rfl (x.map cb) hxL (blk_cells hA1) ?_)
      | (refine wpList_store_agg rfl _ _ _ rfl _ _ rfl (x.map cb).toArray rfl hxS hB1 hszb (one_cbA x) ?_; intro w2 hput; have hA1 := hput.other hA1 hne))
    rw [spl_whole (vs := (x.map cb).toArray) (by simp [hx, hy0])] at hput
    refine (Text_any w2 hx).mono ?_
    rintro e wf ⟨rfl, hbt⟩
    have hAf := hA1.below hbt hA1.lt
    have hBf := hput.blk.below hbt hput.blk.lt
    have hbf := bx_trans (bx_put hb01 hput hgbw2) hbt
    have hy := hx
    obtain ⟨y, hyx⟩ : ∃ y, y = x := ⟨_, rfl⟩
    rw [show (x.map cb).toArray = (y.map cb).toArray from by rw [hyx]] at hBf
    rw [← hyx] at hy
    clear hA1 hB1 hb01 hbt hs1 hs0 hput hyx
    have htl : (textL x).length = 64 := by rw [textL_length, hx]
    have hssz := str_size htl
    have hnum : ∀ (i : Nat), i < 64 → ∀ w : World, (Instr.index 9 (.string ⟨(textL x).toArray⟩) (.int .i64 (i : Int))).run Tryd.prog w = .ok (.int .u8 ((dig (nib x i)).toNat : Int)) w := fun i hi w => str_get (textL_get x i (by omega)) w
    have hgetx : ∀ (W : World), Blk W w.heap.size 26 (x.map cb).toArray → ∀ a : Nat, a < 32 → W.cell? ⟨w.heap.size, a, none⟩ = some (.int .u8 ((x.getD a 0).toNat : Int)) := fun W hW a ha => by
      rw [hW.cell]
      simp [cb, hx, ha, List.getD]
    have HNUM := hid hnum
    have HGX := hid hgetx
    have HTE := hid (text_eq hx hy)
    have HTE2 := hid (fun w => eq_hash x y hx hy w)
    clear hnum hgetx
    obtain ⟨S, hS⟩ : ∃ S, S = textL x := ⟨_, rfl⟩
    rw [← hS] at hssz HNUM HTE ⊢
    clear hS htl
    have hbW := hbf.size
    go_wp2
    go_loopw [9] (fun j wr => ∃ i : Nat, i ≤ 64 ∧ j = .int .i64 i ∧ Below wf.heap.size wf wr) (fun j _ => 64 - (intOf j).toNat)
    case atStart => exact ⟨0, by omega, rfl, Below.refl _ _⟩
    case round =>
      obtain ⟨i, hi, rfl, hbr⟩ := hrel
      have hAr := hAf.below hbr hAf.lt
      by_cases hlt : i < 64
      · have hidx := HNUM.out i hlt wr
        obtain ⟨a, ha⟩ : ∃ a, a = i / 2 := ⟨_, rfl⟩
        obtain ⟨r, hr⟩ : ∃ r, r = i % 2 := ⟨_, rfl⟩
        have hqa : (i : Int).tdiv 2 = (a : Int) := (Int.tdiv_eq_ediv_of_nonneg (by omega)).trans (by omega)
        have hrb : (i : Int).tmod 2 = (r : Int) := (Int.tmod_eq_emod_of_nonneg (by omega)).trans (by omega)
        have ha32 : (a : Int) < 32 := by omega
        have hcell := HGX.out wr hAr a (by omega)
        have hnib : nib x i = if r = 1 then (x.getD a 0).toNat % 16 else (x.getD a 0).toNat / 16 := by rw [hr, ha]; rfl
        have hn16 := nib_lt x i
        have hdn := dig_toNat hn16
        have hx8 := (x.getD a 0).toNat_lt
        have hsh := shr4_u8 (x.getD a 0)
        have han := and15_u8 (x.getD a 0)
        have hr2 : r = 0 ∨ r = 1 := by omega
        generalize nib x i = q at *
        generalize (dig q).toNat = cn at *
        generalize x.getD a 0 = xa at *
        have hlo : xa.toNat % 16 < 16 := by omega
        have hhi : xa.toNat / 16 < 16 := by omega
        generalize xa.toNat % 16 = lo at *
        generalize xa.toNat / 16 = hi4 at *
        clear ha hr
        by_cases hq : q < 10
        · rw [if_pos hq] at hdn
          have hc97 : ¬ (97 : Int) ≤ (cn : Int) := by omega
          have h48 : (cn : Int) - 48 = (q : Int) := by omega
          rcases hr2 with rfl | rfl
          · have hnib2 : q = hi4 := hnib
            subst hnib2
            clear hnib hdn hq
            go_wp2_with (refine wpList_index rfl _ _ _ rfl _ _ _ rfl rfl hidx ?_)
            go_roundw
            case rel => exact ⟨i + 1, by omega, by go_num, hbr⟩
            case measure => simp [intOf]; omega
          · have hnib2 : q = lo := hnib
            subst hnib2
            clear hnib hdn hq
            go_wp2_with (refine wpList_index rfl _ _ _ rfl _ _ _ rfl rfl hidx ?_)
            go_roundw
            case rel => exact ⟨i + 1, by omega, by go_num, hbr⟩
            case measure => simp [intOf]; omega
        · rw [if_neg hq] at hdn
          have hc97 : (97 : Int) ≤ (cn : Int) := by omega
          obtain ⟨n2, hn2⟩ : ∃ n2 : Nat, n2 = q - 10 := ⟨_, rfl⟩
          obtain ⟨n3, hn3⟩ : ∃ n3 : Nat, n3 = cn - 48 := ⟨_, rfl⟩
          have h48 : (cn : Int) - 48 = (n3 : Int) := by omega
          have h97 : (cn : Int) - 97 = (n2 : Int) := by omega
          have h10 : (n2 : Int) + 10 = (q : Int) := by omega
          have hn29 : n2 < 10 := by omega
          have hn39 : n3 < 256 := by omega
          rcases hr2 with rfl | rfl
          · have hnib2 : q = hi4 := hnib
            subst hnib2
            clear hnib hdn hq hn2 hn3
            go_wp2_with (refine wpList_index rfl _ _ _ rfl _ _ _ rfl rfl hidx ?_)
            go_roundw
            case rel => exact ⟨i + 1, by omega, by go_num, hbr⟩
            case measure => simp [intOf]; omega
          · have hnib2 : q = lo := hnib
            subst hnib2
            clear hnib hdn hq hn2 hn3
            go_wp2_with (refine wpList_index rfl _ _ _ rfl _ _ _ rfl rfl hidx ?_)
            go_roundw
            case rel => exact ⟨i + 1, by omega, by go_num, hbr⟩
            case measure => simp [intOf]; omega
      · have hBr := hBf.below hbr hBf.lt
        have hyL := aggHL hy
        have hbfin := hbf.trans (hbr.mono hbW)
        go_wp2_with fail
        refine wp_flow (by kernel_rfl) [0, 0, 2, 7, 0, 0, 48, 127, 255] 9 [false, false, false, false, false, false, true, false, false, false, false, false, false, false, false, false, false, false, false, false, false, false, false, false, false, false, false, false, false, false, false, false, false, false, false, false, false, false, false, false, false, false, false, false, false, false, false, false, false, false, false, false, false, false, false, false, false, true, true, true, true, true, true, true, true] (by kernel_rfl) (by decide) (by kernel_rfl) [FP.eq (.string ⟨S.toArray⟩), FP.eq (.agg (y.map cb).toArray), FP.eq (.string ⟨(textL y).toArray⟩), FP.eq (.bool (x == y)), FP.eq (.agg (x.map cb).toArray), FP.eq (.agg (y.map cb).toArray), FP.eq (.bool (x == y)), FP.eq (.bool true), FP.eq (.bool true)] ?_ ?_
        · refine allFrom_cons ?_ ?_
          · intro a_ w_ hk_
            have h8 : a_.eval (.tmp 8) = .string ⟨S.toArray⟩ := hk_.old 8 (by kernel_rfl)
            have hx_ := hk_.ext
            clear hk_
            refine flow_plain rfl ?_
            exact gives_move rfl ⟨Below.refl _ _, h8⟩
          refine allFrom_cons ?_ ?_
          · intro a_ w_ hk_
            have h4 : a_.eval (.tmp 4) = .pointer (some ⟨gb, 0, none⟩) := hk_.old 4 (by kernel_rfl)
            have hx_ := hk_.ext
            clear hk_
            refine flow_plain rfl ?_
            exact gives_load_agg _ _ rfl gb 0 h4 _ hyL (blk_cells (hBr.below hx_ hBr.lt)) ⟨Below.refl _ _, rfl⟩
          refine allFrom_cons ?_ ?_
          · intro a_ w_ hk_
            have h58 : a_.eval (.tmp 58) = (.agg (y.map cb).toArray) := hk_.got 1 58 _ (by kernel_rfl) rfl rfl
            have hx_ := hk_.ext
            clear hk_
            refine flow_plain rfl ?_
            unfold gives
            have hc_ : ∀ v, a_.eval (.const v) = v := fun _ => rfl
            have hn_ : ∀ f, a_.eval (.func f) = .func (.func f) #[] #[] := fun _ => rfl
            generalize a_.eval = ρ_ at *
            go_simp
            exact (Text_any _ hy).mono fun e w' ⟨h1, h2⟩ => ⟨_, h1, h2, rfl⟩
          refine allFrom_cons ?_ ?_
          · intro a_ w_ hk_
            have h57 : a_.eval (.tmp 57) = (.string ⟨S.toArray⟩) := hk_.got 0 57 _ (by kernel_rfl) rfl rfl
            have h59 : a_.eval (.tmp 59) = (.string ⟨(textL y).toArray⟩) := hk_.got 2 59 _ (by kernel_rfl) rfl rfl
            have hx_ := hk_.ext
            clear hk_
            refine flow_plain rfl ?_
            unfold gives
            have hc_ : ∀ v, a_.eval (.const v) = v := fun _ => rfl
            have hn_ : ∀ f, a_.eval (.func f) = .func (.func f) #[] #[] := fun _ => rfl
            generalize a_.eval = ρ_ at *
            go_simp
            exact ⟨Below.refl _ _, congrArg Value.bool HTE.out⟩
          refine allFrom_cons ?_ ?_
          · intro a_ w_ hk_
            have h3 : a_.eval (.tmp 3) = .pointer (some ⟨w.heap.size, 0, none⟩) := hk_.old 3 (by kernel_rfl)
            have hx_ := hk_.ext
            clear hk_
            refine flow_plain rfl ?_
            exact gives_load_agg _ _ rfl w.heap.size 0 h3 _ hxL (blk_cells (hAr.below hx_ hAr.lt)) ⟨Below.refl _ _, rfl⟩
          refine allFrom_cons ?_ ?_
          · intro a_ w_ hk_
            have h4 : a_.eval (.tmp 4) = .pointer (some ⟨gb, 0, none⟩) := hk_.old 4 (by kernel_rfl)
            have hx_ := hk_.ext
            clear hk_
            refine flow_plain rfl ?_
            exact gives_load_agg _ _ rfl gb 0 h4 _ hyL (blk_cells (hBr.below hx_ hBr.lt)) ⟨Below.refl _ _, rfl⟩
          refine allFrom_cons ?_ ?_
          · intro a_ w_ hk_
            have h61 : a_.eval (.tmp 61) = (.agg (x.map cb).toArray) := hk_.got 4 61 _ (by kernel_rfl) rfl rfl
            have h62 : a_.eval (.tmp 62) = (.agg (y.map cb).toArray) := hk_.got 5 62 _ (by kernel_rfl) rfl rfl
            have hx_ := hk_.ext
            clear hk_
            refine flow_plain rfl ?_
            unfold gives
            have hc_ : ∀ v, a_.eval (.const v) = v := fun _ => rfl
            have hn_ : ∀ f, a_.eval (.func f) = .func (.func f) #[] #[] := fun _ => rfl
            have heq := HTE2.out w_
            generalize a_.eval = ρ_ at *
            go_simp
            exact ⟨Below.refl _ _, rfl⟩
          refine allFrom_cons ?_ ?_
          · intro a_ w_ hk_
            have h60 : a_.eval (.tmp 60) = (.bool (x == y)) := hk_.got 3 60 _ (by kernel_rfl) rfl rfl
            have h63 : a_.eval (.tmp 63) = (.bool (x == y)) := hk_.got 6 63 _ (by kernel_rfl) rfl rfl
            have hx_ := hk_.ext
            clear hk_
            refine flow_plain rfl ?_
            unfold gives
            have hc_ : ∀ v, a_.eval (.const v) = v := fun _ => rfl
            have hn_ : ∀ f, a_.eval (.func f) = .func (.func f) #[] #[] := fun _ => rfl
            generalize a_.eval = ρ_ at *
            go_simp
            exact ⟨Below.refl _ _, rfl⟩
          refine allFrom_cons ?_ ?_
          · intro a_ w_ hk_
            have h64 : a_.eval (.tmp 64) = (.bool true) := hk_.got 7 64 _ (by kernel_rfl) rfl rfl
            have hx_ := hk_.ext
            clear hk_
            refine flow_plain rfl ?_
            exact gives_assign rfl ⟨Below.refl _ _, h64⟩
          exact allFrom_nil
        intro f_ w_ hx_ hf_
        have h57 : f_ 57 = (.string ⟨S.toArray⟩) := hf_ 0 57 _ (by decide) rfl rfl
        have h58 : f_ 58 = (.agg (y.map cb).toArray) := hf_ 1 58 _ (by decide) rfl rfl
        have h59 : f_ 59 = (.string ⟨(textL y).toArray⟩) := hf_ 2 59 _ (by decide) rfl rfl
        have h60 : f_ 60 = (.bool (x == y)) := hf_ 3 60 _ (by decide) rfl rfl
        have h61 : f_ 61 = (.agg (x.map cb).toArray) := hf_ 4 61 _ (by decide) rfl rfl
        have h62 : f_ 62 = (.agg (y.map cb).toArray) := hf_ 5 62 _ (by decide) rfl rfl
        have h63 : f_ 63 = (.bool (x == y)) := hf_ 6 63 _ (by decide) rfl rfl
        have h64 : f_ 64 = (.bool true) := hf_ 7 64 _ (by decide) rfl rfl
        have h6 : f_ 6 = (.bool true) := hf_ 8 6 _ (by decide) rfl rfl
        simp only [mix, List.drop_succ_cons, List.drop_zero, h57, h58, h59, h60, h61, h62, h63, h64, h6]
        clear h57 h58 h59 h60 h61 h62 h63 h64 h6
        clear hf_
        go_wp2
        go_ret
        exact ⟨rfl, bx_trans hbfin hx_⟩
end Go.Proofs.YtebabkccpbdphaaDoor
