
/- Are two rows the same? -/
import Derived.Test.YthbmmilefimpaaaDigC
namespace Go.Proofs.Ythbmmilefimpaaa
open Go.RowKit Go.Maps
set_option linter.unusedVariables false
theorem formedK {k : Key} (hk : kOk k) : (Value.agg (kc k).toArray).formed Try.prog 54 = true := by
  simp only [Value.formed, Try.underlying54, cellsK, List.size_toArray, kc_len hk]
  rfl
theorem litsK {k : Key} (hk : kOk k) : ∃ ls, Try.prog.keyLits (Try.prog.types.size + 1) 54 (kc k) = some ls ∧ keyOf Try.prog 54 (.agg (kc k).toArray) = some (.string (keyBytes ls)) := by
  obtain ⟨l, hl⟩ := keyOfK hk
  have hl' := hl
  unfold keyOf at hl
  simp only [Try.underlying54] at hl
  have hf : (Try.prog.keyType 54 && Value.formed Try.prog 54 (.agg (kc k).toArray)) = true := by
    rw [show Try.prog.keyType 54 = true from by kernel_rfl, formedK hk]
    rfl
  rw [if_pos hf, show (Value.agg (kc k).toArray).cells.toList = kc k from rfl] at hl
  cases h : Try.prog.keyLits (Try.prog.types.size + 1) 54 (kc k) with
  | none => rw [h] at hl; cases hl
  | some ls =>
    rw [h] at hl
    refine ⟨ls, rfl, ?_⟩
    rw [hl', ← hl]
    rfl
/-- '==' of two of them. -/
theorem eqK {a b : Key} (ha : kOk a) (hb : kOk b) (w : World) : (Op.equalIn 10000 54 (.agg (kc a).toArray) (.agg (kc b).toArray)).run Try.prog w = .ok (decide (a = b)) w := by
  obtain ⟨la, h1, h2⟩ := litsK ha
  obtain ⟨lb, h3, h4⟩ := litsK hb
  obtain ⟨r, hr, hi⟩ := run_equalIn_deep 9994 6 54 (by kernel_rfl) w _ _ (.agg (kc a).toArray) (.agg (kc b).toArray) la lb (formedK ha) (formedK hb) h1 h3
  rw [hr]
  congr 1
  rw [Bool.eq_iff_iff, hi, decide_eq_true_iff]
  constructor
  · intro h
    subst h
    have := keyedK.inj h2 h4
    injection this with this
    exact kc_inj (by simpa using this)
  · intro h
    subst h
    rw [h1] at h3
    exact Option.some.inj h3
theorem guardK : Try.prog.eqGuardType Try.prog.depth 54 = false := by kernel_rfl
set_option maxHeartbeats 1000000 in
theorem SameK_any (w : World) {A1 A2 : Option Addr} {c1 c2 : Nat} {l m : List Key} (hok1 : ∀ k ∈ l, kOk k) (hok2 : ∀ k ∈ m, kOk k) (hr1 : Rd w w.heap.size A1 (l.map kc).flatten) (hr2 : Rd w w.heap.size A2 (m.map kc).flatten) (hl1 : l.length ≤ 100000) (hl2 : m.length ≤ 100000) :
    Calls Try.prog 12 #[.slice A1 l.length c1, .slice A2 m.length c2] w fun e w' => e = .returned (.bool (decide (l = m))) ∧ Below w.heap.size w w' := by
  have HR1 := hid hr1
  have HR2 := hid hr2
  have HO1 := hid hok1
  have HO2 := hid hok2
  clear hr1 hr2 hok1 hok2
  go_enter Try.func12, Try.ntmps12
  by_cases hlen : l.length = m.length
  · have HLEN := hid hlen
    rw [hlen]
    clear hlen
    go_wp2
    go_loopw [5] (fun j wr => ∃ (i : Nat), i ≤ m.length ∧ j = .int .i64 i ∧ l.take i = m.take i ∧ Below w.heap.size w wr) (fun j _ => m.length - (intOf j).toNat)
    case atStart => exact ⟨0, by omega, rfl, rfl, Below.refl _ _⟩
    case round =>
      obtain ⟨i, hi, rfl, htk, hbr⟩ := hrel
      by_cases hlt : i < m.length
      · have hlt1 : i < l.length := by rw [HLEN.out]; exact hlt
        obtain ⟨b1, off1, rfl, hbb1, hd1⟩ := rd_item (i := i) (HR1.out.below hbr) (mapLenK HO1.out) (by decide) (by rw [List.length_map]; exact hlt1)
        obtain ⟨b2, off2, rfl, hbb2, hd2⟩ := rd_item (i := i) (HR2.out.below hbr) (mapLenK HO2.out) (by decide) (by rw [List.length_map]; exact hlt)
        rw [List.getElem_map] at hd1 hd2
        have hx := HO1.out _ (List.getElem_mem hlt1)
        have hy := HO2.out _ (List.getElem_mem hlt)
        have ht1 : l.take (i + 1) = l.take i ++ [l[i]] := List.take_succ_eq_append_getElem hlt1
        have ht2 : m.take (i + 1) = m.take i ++ [m[i]] := List.take_succ_eq_append_getElem hlt
        have hne : l[i] ≠ m[i] → l ≠ m := fun h e => h (by subst e; rfl)
        have HT1 := hid ht1
        have HT2 := hid ht2
        have HNE := hid hne
        have HTK := hid htk
        clear ht1 ht2 hne htk
        generalize l[i] = x at *
        generalize m[i] = y at *
        have hdr1 : ∀ w_, Below w.heap.size wr w_ → ∀ j v, (kc x)[j]? = some v → w_.cell? ⟨b1, off1 + i * 33 + j, none⟩ = some v := fun w_ hb j v hv => (hb.cell (p := ⟨b1, off1 + i * 33 + j, none⟩) hbb1).trans (hd1 j v hv)
        have hdr2 : ∀ w_, Below w.heap.size wr w_ → ∀ j v, (kc y)[j]? = some v → w_.cell? ⟨b2, off2 + i * 33 + j, none⟩ = some v := fun w_ hb j v hv => (hb.cell (p := ⟨b2, off2 + i * 33 + j, none⟩) hbb2).trans (hd2 j v hv)
        have HD1 := hid hdr1
        have HD2 := hid hdr2
        clear hdr1 hdr2 hd1 hd2
        go_wp2
        refine wp_flow (by kernel_rfl) [0, 0, 3, 7, 0, 0, 48, 112, 255] 9 [false, false, false, false, false, false, false, false, false, false, false, false, false, false, false, false, false, true, true, true, true, true, true, true, true, true] (by kernel_rfl) (by decide) (by kernel_rfl) [FP.eq (.slice (some ⟨b1, off1, none⟩) m.length c1), FP.eq (.int .i64 (i : Int)), FP.eq (.pointer (some ⟨b1, off1 + i * 33, none⟩)), FP.eq (.agg (kc x).toArray), FP.eq (.slice (some ⟨b2, off2, none⟩) m.length c2), FP.eq (.int .i64 (i : Int)), FP.eq (.pointer (some ⟨b2, off2 + i * 33, none⟩)), FP.eq (.agg (kc y).toArray), FP.eq (.bool (!decide (x = y)))] ?_ ?_
        · refine allFrom_cons ?_ ?_
          · intro a_ w_ hk_
            have h0 : a_.eval (.tmp 0) = .slice (some ⟨b1, off1, none⟩) m.length c1 := hk_.old 0 (by kernel_rfl)
            have hx_ := hk_.ext
            clear hk_
            refine flow_plain rfl ?_
            exact gives_move rfl ⟨Below.refl _ _, h0⟩
          refine allFrom_cons ?_ ?_
          · intro a_ w_ hk_
            have h5 : a_.eval (.tmp 5) = .int .i64 (i : Int) := hk_.old 5 (by kernel_rfl)
            have hx_ := hk_.ext
            clear hk_
            refine flow_plain rfl ?_
            exact gives_move rfl ⟨Below.refl _ _, h5⟩
          refine allFrom_cons ?_ ?_
          · intro a_ w_ hk_
            have h17 : a_.eval (.tmp 17) = (.slice (some ⟨b1, off1, none⟩) m.length c1) := hk_.got 0 17 _ (by kernel_rfl) rfl rfl
            have h18 : a_.eval (.tmp 18) = (.int .i64 (i : Int)) := hk_.got 1 18 _ (by kernel_rfl) rfl rfl
            have hx_ := hk_.ext
            clear hk_
            refine flow_plain rfl ?_
            unfold gives
            have hc_ : ∀ v, a_.eval (.const v) = v := fun _ => rfl
            have hn_ : ∀ f, a_.eval (.func f) = .func (.func f) #[] #[] := fun _ => rfl
            generalize a_.eval = ρ_ at *
            go_simp
            exact ⟨Below.refl _ _, rfl⟩
          refine allFrom_cons ?_ ?_
          · intro a_ w_ hk_
            have h19 : a_.eval (.tmp 19) = (.pointer (some ⟨b1, off1 + i * 33, none⟩)) := hk_.got 2 19 _ (by kernel_rfl) rfl rfl
            have hx_ := hk_.ext
            clear hk_
            refine flow_plain rfl ?_
            exact gives_loadA rfl h19 (aggKc hx) (HD1.out _ (hx_.mono hbr.size)) ⟨Below.refl _ _, rfl⟩
          refine allFrom_cons ?_ ?_
          · intro a_ w_ hk_
            have h1 : a_.eval (.tmp 1) = .slice (some ⟨b2, off2, none⟩) m.length c2 := hk_.old 1 (by kernel_rfl)
            have hx_ := hk_.ext
            clear hk_
            refine flow_plain rfl ?_
            exact gives_move rfl ⟨Below.refl _ _, h1⟩
          refine allFrom_cons ?_ ?_
          · intro a_ w_ hk_
            have h5 : a_.eval (.tmp 5) = .int .i64 (i : Int) := hk_.old 5 (by kernel_rfl)
            have hx_ := hk_.ext
            clear hk_
            refine flow_plain rfl ?_
            exact gives_move rfl ⟨Below.refl _ _, h5⟩
          refine allFrom_cons ?_ ?_
          · intro a_ w_ hk_
            have h21 : a_.eval (.tmp 21) = (.slice (some ⟨b2, off2, none⟩) m.length c2) := hk_.got 4 21 _ (by kernel_rfl) rfl rfl
            have h22 : a_.eval (.tmp 22) = (.int .i64 (i : Int)) := hk_.got 5 22 _ (by kernel_rfl) rfl rfl
            have hx_ := hk_.ext
            clear hk_
            refine flow_plain rfl ?_
            unfold gives
            have hc_ : ∀ v, a_.eval (.const v) = v := fun _ => rfl
            have hn_ : ∀ f, a_.eval (.func f) = .func (.func f) #[] #[] := fun _ => rfl
            generalize a_.eval = ρ_ at *
            go_simp
            exact ⟨Below.refl _ _, rfl⟩
          refine allFrom_cons ?_ ?_
          · intro a_ w_ hk_
            have h23 : a_.eval (.tmp 23) = (.pointer (some ⟨b2, off2 + i * 33, none⟩)) := hk_.got 6 23 _ (by kernel_rfl) rfl rfl
            have hx_ := hk_.ext
            clear hk_
            refine flow_plain rfl ?_
            exact gives_loadA rfl h23 (aggKc hy) (HD2.out _ (hx_.mono hbr.size)) ⟨Below.refl _ _, rfl⟩
          refine allFrom_cons ?_ ?_
          · intro a_ w_ hk_
            have h20 : a_.eval (.tmp 20) = (.agg (kc x).toArray) := hk_.got 3 20 _ (by kernel_rfl) rfl rfl
            have h24 : a_.eval (.tmp 24) = (.agg (kc y).toArray) := hk_.got 7 24 _ (by kernel_rfl) rfl rfl
            have hx_ := hk_.ext
            clear hk_
            refine flow_plain rfl ?_
            exact gives_neqA guardK rfl h20 h24 (eqK hx hy w_) ⟨Below.refl _ _, rfl⟩
          exact allFrom_nil
        intro f_ w_ hx_ hf_
        have h17 : f_ 17 = (.slice (some ⟨b1, off1, none⟩) m.length c1) := hf_ 0 17 _ (by decide) rfl rfl
        have h18 : f_ 18 = (.int .i64 (i : Int)) := hf_ 1 18 _ (by decide) rfl rfl
        have h19 : f_ 19 = (.pointer (some ⟨b1, off1 + i * 33, none⟩)) := hf_ 2 19 _ (by decide) rfl rfl
        have h20 : f_ 20 = (.agg (kc x).toArray) := hf_ 3 20 _ (by decide) rfl rfl
        have h21 : f_ 21 = (.slice (some ⟨b2, off2, none⟩) m.length c2) := hf_ 4 21 _ (by decide) rfl rfl
        have h22 : f_ 22 = (.int .i64 (i : Int)) := hf_ 5 22 _ (by decide) rfl rfl
        have h23 : f_ 23 = (.pointer (some ⟨b2, off2 + i * 33, none⟩)) := hf_ 6 23 _ (by decide) rfl rfl
        have h24 : f_ 24 = (.agg (kc y).toArray) := hf_ 7 24 _ (by decide) rfl rfl
        have h25 : f_ 25 = (.bool (!decide (x = y))) := hf_ 8 25 _ (by decide) rfl rfl
        simp only [mix, List.drop_succ_cons, List.drop_zero, h17, h18, h19, h20, h21, h22, h23, h24, h25]
        clear h17 h18 h19 h20 h21 h22 h23 h24 h25
        clear hf_
        have hb8 := hbr.trans (hx_.mono hbr.size)
        by_cases hxy : x = y
        · rw [decide_eq_true hxy]
          go_wp2
          go_roundw
          case rel => exact ⟨i + 1, by omega, by go_num, by rw [HT1.out, HT2.out, HTK.out, hxy], hb8⟩
          case measure => simp [intOf]; omega
        · rw [decide_eq_false hxy]
          have hlm := decide_eq_false (HNE.out hxy)
          have HLM := hid hlm
          clear hlm
          go_wp2
          go_ret
          exact ⟨by rw [HLM.out]; rfl, hb8⟩
      · obtain rfl : i = m.length := by omega
        have hlm : l = m := by rw [List.take_length, ← HLEN.out, List.take_length] at htk; exact htk
        have hlm := decide_eq_true hlm
        have HLM := hid hlm
        clear hlm htk
        go_wp2
        go_ret
        exact ⟨by rw [HLM.out]; rfl, hbr⟩
  · have hlm : l ≠ m := fun e => hlen (by rw [e])
    have hlm := decide_eq_false hlm
    have HLM := hid hlm
    have hli : ((l.length : Int) = (m.length : Int)) = False := by simp; omega
    clear hlm
    go_wp2
    go_ret
    exact ⟨by rw [HLM.out]; rfl, Below.refl _ _⟩
theorem formedH {k : (List UInt8)} (hk : hOk k) : (Value.agg (hc k).toArray).formed Try.prog 52 = true := by
  simp only [Value.formed, Try.underlying52, cellsH, List.size_toArray, hc_len hk]
  rfl
theorem litsH {k : (List UInt8)} (hk : hOk k) : ∃ ls, Try.prog.keyLits (Try.prog.types.size + 1) 52 (hc k) = some ls ∧ keyOf Try.prog 52 (.agg (hc k).toArray) = some (.string (keyBytes ls)) := by
  obtain ⟨l, hl⟩ := keyOfH hk
  have hl' := hl
  unfold keyOf at hl
  simp only [Try.underlying52] at hl
  have hf : (Try.prog.keyType 52 && Value.formed Try.prog 52 (.agg (hc k).toArray)) = true := by
    rw [show Try.prog.keyType 52 = true from by kernel_rfl, formedH hk]
    rfl
  rw [if_pos hf, show (Value.agg (hc k).toArray).cells.toList = hc k from rfl] at hl
  cases h : Try.prog.keyLits (Try.prog.types.size + 1) 52 (hc k) with
  | none => rw [h] at hl; cases hl
  | some ls =>
    rw [h] at hl
    refine ⟨ls, rfl, ?_⟩
    rw [hl', ← hl]
    rfl
/-- '==' of two of them. -/
theorem eqH {a b : (List UInt8)} (ha : hOk a) (hb : hOk b) (w : World) : (Op.equalIn 10000 52 (.agg (hc a).toArray) (.agg (hc b).toArray)).run Try.prog w = .ok (decide (a = b)) w := by
  obtain ⟨la, h1, h2⟩ := litsH ha
  obtain ⟨lb, h3, h4⟩ := litsH hb
  obtain ⟨r, hr, hi⟩ := run_equalIn_deep 9994 6 52 (by kernel_rfl) w _ _ (.agg (hc a).toArray) (.agg (hc b).toArray) la lb (formedH ha) (formedH hb) h1 h3
  rw [hr]
  congr 1
  rw [Bool.eq_iff_iff, hi, decide_eq_true_iff]
  constructor
  · intro h
    subst h
    have := keyedH.inj h2 h4
    injection this with this
    exact hc_inj (by simpa using this)
  · intro h
    subst h
    rw [h1] at h3
    exact Option.some.inj h3
theorem guardH : Try.prog.eqGuardType Try.prog.depth 52 = false := by kernel_rfl
set_option maxHeartbeats 1000000 in
theorem SameH_any (w : World) {A1 A2 : Option Addr} {c1 c2 : Nat} {l m : List (List UInt8)} (hok1 : ∀ k ∈ l, hOk k) (hok2 : ∀ k ∈ m, hOk k) (hr1 : Rd w w.heap.size A1 (l.map hc).flatten) (hr2 : Rd w w.heap.size A2 (m.map hc).flatten) (hl1 : l.length ≤ 100000) (hl2 : m.length ≤ 100000) :
    Calls Try.prog 13 #[.slice A1 l.length c1, .slice A2 m.length c2] w fun e w' => e = .returned (.bool (decide (l = m))) ∧ Below w.heap.size w w' := by
  have HR1 := hid hr1
  have HR2 := hid hr2
  have HO1 := hid hok1
  have HO2 := hid hok2
  clear hr1 hr2 hok1 hok2
  go_enter Try.func13, Try.ntmps13
  by_cases hlen : l.length = m.length
  · have HLEN := hid hlen
    rw [hlen]
    clear hlen
    go_wp2
    go_loopw [5] (fun j wr => ∃ (i : Nat), i ≤ m.length ∧ j = .int .i64 i ∧ l.take i = m.take i ∧ Below w.heap.size w wr) (fun j _ => m.length - (intOf j).toNat)
    case atStart => exact ⟨0, by omega, rfl, rfl, Below.refl _ _⟩
    case round =>
      obtain ⟨i, hi, rfl, htk, hbr⟩ := hrel
      by_cases hlt : i < m.length
      · have hlt1 : i < l.length := by rw [HLEN.out]; exact hlt
        obtain ⟨b1, off1, rfl, hbb1, hd1⟩ := rd_item (i := i) (HR1.out.below hbr) (mapLenH HO1.out) (by decide) (by rw [List.length_map]; exact hlt1)
        obtain ⟨b2, off2, rfl, hbb2, hd2⟩ := rd_item (i := i) (HR2.out.below hbr) (mapLenH HO2.out) (by decide) (by rw [List.length_map]; exact hlt)
        rw [List.getElem_map] at hd1 hd2
        have hx := HO1.out _ (List.getElem_mem hlt1)
        have hy := HO2.out _ (List.getElem_mem hlt)
        have ht1 : l.take (i + 1) = l.take i ++ [l[i]] := List.take_succ_eq_append_getElem hlt1
        have ht2 : m.take (i + 1) = m.take i ++ [m[i]] := List.take_succ_eq_append_getElem hlt
        have hne : l[i] ≠ m[i] → l ≠ m := fun h e => h (by subst e; rfl)
        have HT1 := hid ht1
        have HT2 := hid ht2
        have HNE := hid hne
        have HTK := hid htk
        clear ht1 ht2 hne htk
        generalize l[i] = x at *
        generalize m[i] = y at *
        have hdr1 : ∀ w_, Below w.heap.size wr w_ → ∀ j v, (hc x)[j]? = some v → w_.cell? ⟨b1, off1 + i * 32 + j, none⟩ = some v := fun w_ hb j v hv => (hb.cell (p := ⟨b1, off1 + i * 32 + j, none⟩) hbb1).trans (hd1 j v hv)
        have hdr2 : ∀ w_, Below w.heap.size wr w_ → ∀ j v, (hc y)[j]? = some v → w_.cell? ⟨b2, off2 + i * 32 + j, none⟩ = some v := fun w_ hb j v hv => (hb.cell (p := ⟨b2, off2 + i * 32 + j, none⟩) hbb2).trans (hd2 j v hv)
        have HD1 := hid hdr1
        have HD2 := hid hdr2
        clear hdr1 hdr2 hd1 hd2
        go_wp2
        refine wp_flow (by kernel_rfl) [0, 0, 3, 7, 0, 0, 48, 112, 255] 9 [false, false, false, false, false, false, false, false, false, false, false, false, false, false, false, false, false, true, true, true, true, true, true, true, true, true] (by kernel_rfl) (by decide) (by kernel_rfl) [FP.eq (.slice (some ⟨b1, off1, none⟩) m.length c1), FP.eq (.int .i64 (i : Int)), FP.eq (.pointer (some ⟨b1, off1 + i * 32, none⟩)), FP.eq (.agg (hc x).toArray), FP.eq (.slice (some ⟨b2, off2, none⟩) m.length c2), FP.eq (.int .i64 (i : Int)), FP.eq (.pointer (some ⟨b2, off2 + i * 32, none⟩)), FP.eq (.agg (hc y).toArray), FP.eq (.bool (!decide (x = y)))] ?_ ?_
        · refine allFrom_cons ?_ ?_
          · intro a_ w_ hk_
            have h0 : a_.eval (.tmp 0) = .slice (some ⟨b1, off1, none⟩) m.length c1 := hk_.old 0 (by kernel_rfl)
            have hx_ := hk_.ext
            clear hk_
            refine flow_plain rfl ?_
            exact gives_move rfl ⟨Below.refl _ _, h0⟩
          refine allFrom_cons ?_ ?_
          · intro a_ w_ hk_
            have h5 : a_.eval (.tmp 5) = .int .i64 (i : Int) := hk_.old 5 (by kernel_rfl)
            have hx_ := hk_.ext
            clear hk_
            refine flow_plain rfl ?_
            exact gives_move rfl ⟨Below.refl _ _, h5⟩
          refine allFrom_cons ?_ ?_
          · intro a_ w_ hk_
            have h17 : a_.eval (.tmp 17) = (.slice (some ⟨b1, off1, none⟩) m.length c1) := hk_.got 0 17 _ (by kernel_rfl) rfl rfl
            have h18 : a_.eval (.tmp 18) = (.int .i64 (i : Int)) := hk_.got 1 18 _ (by kernel_rfl) rfl rfl
            have hx_ := hk_.ext
            clear hk_
            refine flow_plain rfl ?_
            unfold gives
            have hc_ : ∀ v, a_.eval (.const v) = v := fun _ => rfl
            have hn_ : ∀ f, a_.eval (.func f) = .func (.func f) #[] #[] := fun _ => rfl
            generalize a_.eval = ρ_ at *
            go_simp
            exact ⟨Below.refl _ _, rfl⟩
          refine allFrom_cons ?_ ?_
          · intro a_ w_ hk_
            have h19 : a_.eval (.tmp 19) = (.pointer (some ⟨b1, off1 + i * 32, none⟩)) := hk_.got 2 19 _ (by kernel_rfl) rfl rfl
            have hx_ := hk_.ext
            clear hk_
            refine flow_plain rfl ?_
            exact gives_loadA rfl h19 (aggHc hx) (HD1.out _ (hx_.mono hbr.size)) ⟨Below.refl _ _, rfl⟩
          refine allFrom_cons ?_ ?_
          · intro a_ w_ hk_
            have h1 : a_.eval (.tmp 1) = .slice (some ⟨b2, off2, none⟩) m.length c2 := hk_.old 1 (by kernel_rfl)
            have hx_ := hk_.ext
            clear hk_
            refine flow_plain rfl ?_
            exact gives_move rfl ⟨Below.refl _ _, h1⟩
          refine allFrom_cons ?_ ?_
          · intro a_ w_ hk_
            have h5 : a_.eval (.tmp 5) = .int .i64 (i : Int) := hk_.old 5 (by kernel_rfl)
            have hx_ := hk_.ext
            clear hk_
            refine flow_plain rfl ?_
            exact gives_move rfl ⟨Below.refl _ _, h5⟩
          refine allFrom_cons ?_ ?_
          · intro a_ w_ hk_
            have h21 : a_.eval (.tmp 21) = (.slice (some ⟨b2, off2, none⟩) m.length c2) := hk_.got 4 21 _ (by kernel_rfl) rfl rfl
            have h22 : a_.eval (.tmp 22) = (.int .i64 (i : Int)) := hk_.got 5 22 _ (by kernel_rfl) rfl rfl
            have hx_ := hk_.ext
            clear hk_
            refine flow_plain rfl ?_
            unfold gives
            have hc_ : ∀ v, a_.eval (.const v) = v := fun _ => rfl
            have hn_ : ∀ f, a_.eval (.func f) = .func (.func f) #[] #[] := fun _ => rfl
            generalize a_.eval = ρ_ at *
            go_simp
            exact ⟨Below.refl _ _, rfl⟩
          refine allFrom_cons ?_ ?_
          · intro a_ w_ hk_
            have h23 : a_.eval (.tmp 23) = (.pointer (some ⟨b2, off2 + i * 32, none⟩)) := hk_.got 6 23 _ (by kernel_rfl) rfl rfl
            have hx_ := hk_.ext
            clear hk_
            refine flow_plain rfl ?_
            exact gives_loadA rfl h23 (aggHc hy) (HD2.out _ (hx_.mono hbr.size)) ⟨Below.refl _ _, rfl⟩
          refine allFrom_cons ?_ ?_
          · intro a_ w_ hk_
            have h20 : a_.eval (.tmp 20) = (.agg (hc x).toArray) := hk_.got 3 20 _ (by kernel_rfl) rfl rfl
            have h24 : a_.eval (.tmp 24) = (.agg (hc y).toArray) := hk_.got 7 24 _ (by kernel_rfl) rfl rfl
            have hx_ := hk_.ext
            clear hk_
            refine flow_plain rfl ?_
            exact gives_neqA guardH rfl h20 h24 (eqH hx hy w_) ⟨Below.refl _ _, rfl⟩
          exact allFrom_nil
        intro f_ w_ hx_ hf_
        have h17 : f_ 17 = (.slice (some ⟨b1, off1, none⟩) m.length c1) := hf_ 0 17 _ (by decide) rfl rfl
        have h18 : f_ 18 = (.int .i64 (i : Int)) := hf_ 1 18 _ (by decide) rfl rfl
        have h19 : f_ 19 = (.pointer (some ⟨b1, off1 + i * 32, none⟩)) := hf_ 2 19 _ (by decide) rfl rfl
        have h20 : f_ 20 = (.agg (hc x).toArray) := hf_ 3 20 _ (by decide) rfl rfl
        have h21 : f_ 21 = (.slice (some ⟨b2, off2, none⟩) m.length c2) := hf_ 4 21 _ (by decide) rfl rfl
        have h22 : f_ 22 = (.int .i64 (i : Int)) := hf_ 5 22 _ (by decide) rfl rfl
        have h23 : f_ 23 = (.pointer (some ⟨b2, off2 + i * 32, none⟩)) := hf_ 6 23 _ (by decide) rfl rfl
        have h24 : f_ 24 = (.agg (hc y).toArray) := hf_ 7 24 _ (by decide) rfl rfl
        have h25 : f_ 25 = (.bool (!decide (x = y))) := hf_ 8 25 _ (by decide) rfl rfl
        simp only [mix, List.drop_succ_cons, List.drop_zero, h17, h18, h19, h20, h21, h22, h23, h24, h25]
        clear h17 h18 h19 h20 h21 h22 h23 h24 h25
        clear hf_
        have hb8 := hbr.trans (hx_.mono hbr.size)
        by_cases hxy : x = y
        · rw [decide_eq_true hxy]
          go_wp2
          go_roundw
          case rel => exact ⟨i + 1, by omega, by go_num, by rw [HT1.out, HT2.out, HTK.out, hxy], hb8⟩
          case measure => simp [intOf]; omega
        · rw [decide_eq_false hxy]
          have hlm := decide_eq_false (HNE.out hxy)
          have HLM := hid hlm
          clear hlm
          go_wp2
          go_ret
          exact ⟨by rw [HLM.out]; rfl, hb8⟩
      · obtain rfl : i = m.length := by omega
        have hlm : l = m := by rw [List.take_length, ← HLEN.out, List.take_length] at htk; exact htk
        have hlm := decide_eq_true hlm
        have HLM := hid hlm
        clear hlm htk
        go_wp2
        go_ret
        exact ⟨by rw [HLM.out]; rfl, hbr⟩
  · have hlm : l ≠ m := fun e => hlen (by rw [e])
    have hlm := decide_eq_false hlm
    have HLM := hid hlm
    have hli : ((l.length : Int) = (m.length : Int)) = False := by simp; omega
    clear hlm
    go_wp2
    go_ret
    exact ⟨by rw [HLM.out]; rfl, Below.refl _ _⟩
end Go.Proofs.Ythbmmilefimpaaa
