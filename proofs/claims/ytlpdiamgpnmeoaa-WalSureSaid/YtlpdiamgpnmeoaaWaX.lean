
/- Records: what the statements share: few, texts, same. -/
import Derived.Test.YtlpdiamgpnmeoaaWaV
namespace Go.Proofs.Ytlpdiamgpnmeoaa
open Go.RowKit
set_option linter.unusedVariables false
def shortB (ls : List (List UInt8)) : Bool := ls.all fun l => decide (l.length ≤ 600)
def fewB (ls : List (List UInt8)) : Bool := shortB ls && decide (ls.length ≤ 10)
theorem fewB_len {ls : List (List UInt8)} (h : fewB ls = true) : ls.length ≤ 10 ∧ ∀ l ∈ ls, l.length ≤ 800000000 := by
  unfold fewB shortB at h
  rw [Bool.and_eq_true, List.all_eq_true, decide_eq_true_eq] at h
  exact ⟨h.2, fun l hl => by have := h.1 l hl; rw [decide_eq_true_eq] at this; omega⟩
theorem fewB_600 {ls : List (List UInt8)} (h : fewB ls = true) : ∀ l ∈ ls, l.length ≤ 600 := by
  unfold fewB shortB at h
  rw [Bool.and_eq_true, List.all_eq_true, decide_eq_true_eq] at h
  exact fun l hl => by have := h.1 l hl; rwa [decide_eq_true_eq] at this
set_option maxRecDepth 10000 in
set_option maxHeartbeats 1000000 in
theorem few_any (w : World) {A : Option Addr} {c : Nat} {ls : List (List UInt8)} (hr : RdBB w w.heap.size A ls) (hc : ls.length ≤ c) (hc2 : c ≤ maxLen) :
    Calls Try.prog 10 #[.slice A ls.length c] w fun e w' => e = .returned (.bool (fewB ls)) ∧ w = w' := by
  unfold maxLen at hc2
  have HR := hid hr
  obtain ⟨F, hF⟩ : ∃ F, F = fewB ls := ⟨_, rfl⟩
  rw [← hF]
  have HF := hid hF
  clear hr hF
  go_enter Try.func10, Try.ntmps10
  go_wp2
  go_loop [3] (fun v3 => ∃ i : Nat, i ≤ ls.length ∧ v3 = .int .i64 (i : Int) ∧ shortB (ls.take i) = true) (fun v3 => ls.length - (intOf v3).toNat)
  case atStart => exact ⟨0, Nat.zero_le _, rfl, rfl⟩
  case round =>
    obtain ⟨i, hi, rfl, hs⟩ := hrel
    have HS := hid hs
    clear hs
    by_cases hlt : i < ls.length
    · obtain ⟨b, off, A', c', rfl, hbB, hcell, hlc, _⟩ := HR.out.at_ hlt
      have htk : ls.take (i + 1) = ls.take i ++ [ls[i]] := List.take_succ_eq_append_getElem hlt
      have hmem : ls[i] ∈ ls := List.getElem_mem hlt
      have HTK := hid htk
      have HMEM := hid hmem
      clear htk hmem
      generalize ls[i] = x at *
      by_cases h60 : x.length ≤ 600
      · go_wp2
        go_round
        case rel => exact ⟨i + 1, by omega, by go_num, by rw [HTK.out, shortB, List.all_append, Bool.and_eq_true]; exact ⟨HS.out, by simpa using h60⟩⟩
        case measure => simp [intOf]; omega
      · have HE : Hid (F = false) := hid (by
          rw [HF.out, fewB]
          have : shortB ls = false := by
            unfold shortB
            rw [List.all_eq_false]
            exact ⟨x, HMEM.out, by simpa using h60⟩
          rw [this, Bool.false_and])
        go_wp2
        go_ret
        exact ⟨by rw [HE.out]; rfl, rfl⟩
    · have hil : i = ls.length := by omega
      subst hil
      have HE : Hid (F = decide (ls.length ≤ 10)) := hid (by
        rw [HF.out, fewB]
        have := HS.out
        rw [List.take_length] at this
        rw [this, Bool.true_and])
      clear HS
      by_cases h20 : ls.length ≤ 10
      · have hd : (ls.length : Int) ≤ 10 := by omega
        have HE2 : Hid (F = true) := hid (by rw [HE.out]; exact decide_eq_true h20)
        clear HE
        go_wp2
        go_ret
        exact ⟨by rw [HE2.out]; rfl, rfl⟩
      · have hd : ¬ (ls.length : Int) ≤ 10 := by omega
        have HE2 : Hid (F = false) := hid (by rw [HE.out]; exact decide_eq_false h20)
        clear HE
        go_wp2
        go_ret
        exact ⟨by rw [HE2.out]; rfl, rfl⟩

/-! ### Texts -/
abbrev tStr : Nat := 9
abbrev tSS : Nat := 38
def sval (l : List UInt8) : Value := .string ⟨l.toArray⟩
theorem elStr : ElT Try.prog tSS tStr 1 16 (Value.string ⟨#[]⟩).cells := elT_of (z := .string ⟨#[]⟩) Try.underlying38 (by kernel_rfl) rfl (by decide)
theorem convT {w : World} {B : Nat} {A : Option Addr} {l : List UInt8} (c : Nat) (h : Rd w B A (l.map cb)) : (convert 23 9 (.slice A l.length c)).run Try.prog w = .ok (.string ⟨l.toArray⟩) w :=
  conv_str Try.underlying23 Try.underlying5 Try.underlying9 c h
set_option maxRecDepth 100000 in
set_option maxHeartbeats 1000000 in
theorem texts_any (w : World) {A : Option Addr} {c : Nat} {ls : List (List UInt8)} (hr : RdBB w w.heap.size A ls) (hl : ls.length ≤ 1000000) :
    Calls Try.prog 18 #[.slice A ls.length c] w fun e w' => ∃ v, e = .returned v ∧ w'.ownsRow w.heap.size tStr 1 v ls.length (ls.map sval) ∧ Below w.heap.size w w' := by
  have HR := hid hr
  clear hr
  go_enter Try.func18, Try.ntmps18
  go_wp2_with fail
  go_loopw [3, 4] (fun v3 v4 wr => ∃ i : Nat, i ≤ ls.length ∧ v4 = .int .i64 (i : Int) ∧ wr.ownsRow w.heap.size tStr 1 v3 i ((ls.take i).map sval) ∧ Below w.heap.size w wr) (fun _ v4 _ => ls.length - (ofInt v4).toNat)
  case atStart => exact ⟨0, Nat.zero_le _, rfl, nil_ownC _ _ _ _, Below.refl _ _⟩
  case round =>
    obtain ⟨i, hi, rfl, hown, hbr⟩ := hrel
    rename World => wr
    obtain ⟨A3, c3, rfl, hc3, hm3, _⟩ := own_form hown
    by_cases hlt : i < ls.length
    · have hlti : (i : Int) < (ls.length : Int) := by omega
      obtain ⟨b, off, A', c', rfl, hbB, hcell, hlc, hrx⟩ := HR.out.at_ hlt
      have htk : ls.take (i + 1) = ls.take i ++ [ls[i]] := List.take_succ_eq_append_getElem hlt
      have hck := (hbr.cell (p := ⟨b, off + i, none⟩) hbB).trans hcell
      have hcv := convT c' (hrx.below hbr)
      have HTK := hid htk
      clear htk hcell hrx
      generalize ls[i] = x at *
      have h63 : i + 1 ≤ maxLen := by unfold maxLen; omega
      have hby : (i + 1) * 16 ≤ 140737488355328 := by omega
      have hob : (wr.alloc (.cells #[.string ⟨x.toArray⟩] tStr)).ownsRow w.heap.size tStr 1 (.slice A3 i c3) i ((ls.take i).map sval) := own_keepW hown (bx_alloc (Below.refl _ _) _)
      have hrd : Rd (wr.alloc (.cells #[.string ⟨x.toArray⟩] tStr)) (wr.alloc (.cells #[.string ⟨x.toArray⟩] tStr)).heap.size (some ⟨wr.heap.size, 0, none⟩) [.string ⟨x.toArray⟩] := rd_of_row (heap_new rfl) rfl
      have hbb := bx_alloc hbr (.cells #[.string ⟨x.toArray⟩] tStr)
      have hone : ∀ u ∈ [Value.string ⟨x.toArray⟩], u.oneCell' = true := by intro u hu; simp at hu; subst hu; rfl
      have HOB := hid hob
      have hbs := hbb.size
      clear hob hown
      go_wp2_with (at_builtin; refine wpList_app rfl _ _ _ rfl _ rfl _ _ _ rfl elStr HOB.out hrd rfl hone h63 hby hbs ?_; intro v5 w5 hown5 hg5 hat5)
      refine ⟨⟨i + 1, hlt, by push_cast; rfl, ?_, own_below hbb HOB.out hg5⟩, by show ls.length - ((i : Int) + 1).toNat < ls.length - (i : Int).toNat; omega⟩
      rw [HTK.out, List.map_append]
      exact hown5
    · have hil : i = ls.length := by omega
      subst hil
      rw [List.take_length] at hown
      have HOWN := hid hown
      go_wp2_with fail
      exact bodyPost_ret (results_tmp rfl _ _ _) rfl ⟨.slice A3 ls.length c3, rfl, HOWN.out, hbr⟩
def sameB (a b : List (List UInt8)) : Bool := decide (a = b)
set_option maxRecDepth 100000 in
set_option maxHeartbeats 1000000 in
theorem same_any (w : World) {A A2 : Option Addr} {c c2 : Nat} {ls ss : List (List UInt8)} (hr : RdBB w w.heap.size A ls) (hs : Rd w w.heap.size A2 (ss.map sval)) (hl : ls.length ≤ 1000000) :
    Calls Try.prog 16 #[.slice A ls.length c, .slice A2 ss.length c2] w fun e w' => e = .returned (.bool (sameB ls ss)) ∧ Below w.heap.size w w' := by
  have HR := hid hr
  have HS := hid hs
  obtain ⟨m, hm⟩ : ∃ m, m = ss.length := ⟨_, rfl⟩
  rw [← hm]
  have HM := hid hm
  clear hr hs hm
  go_enter Try.func16, Try.ntmps16
  by_cases hlen : ls.length = m
  · have HLEN := hid hlen
    rw [hlen] at hl ⊢
    clear hlen
    go_wp2_with fail
    go_loopw [5] (fun v5 wr => ∃ i : Nat, i ≤ m ∧ v5 = .int .i64 (i : Int) ∧ ls.take i = ss.take i ∧ Below w.heap.size w wr) (fun v5 _ => m - (ofInt v5).toNat)
    case atStart => exact ⟨0, Nat.zero_le _, rfl, rfl, Below.refl _ _⟩
    case round =>
      obtain ⟨i, hi, rfl, htk, hbr⟩ := hrel
      rename World => wr
      by_cases hlt : i < m
      · have hlti : (i : Int) < (m : Int) := by omega
        have hil : i < ls.length := by rw [HLEN.out]; exact hlt
        have his : i < ss.length := by rw [← HM.out]; exact hlt
        obtain ⟨b, off, A', c', rfl, hbB, hcell, hlc, hrx⟩ := HR.out.at_ hil
        obtain ⟨b2, off2, rfl, hbB2, hcell2⟩ := HS.out.at_ (k := i) (by rw [List.length_map]; exact his)
        have hck := (hbr.cell (p := ⟨b, off + i, none⟩) hbB).trans hcell
        have hck2 := (hbr.cell (p := ⟨b2, off2 + i, none⟩) hbB2).trans (hcell2 i (sval ss[i]) (by rw [List.getElem?_map, List.getElem?_eq_getElem his]; rfl))
        have lb1 := Nat.lt_of_lt_of_le hbB hbr.size
        have lb2 := Nat.lt_of_lt_of_le hbB2 hbr.size
        have ht1 : ls.take (i + 1) = ls.take i ++ [ls[i]] := List.take_succ_eq_append_getElem hil
        have ht2 : ss.take (i + 1) = ss.take i ++ [ss[i]] := List.take_succ_eq_append_getElem his
        have hgl : ls[i]? = some ls[i] := List.getElem?_eq_getElem hil
        have hgs : ss[i]? = some ss[i] := List.getElem?_eq_getElem his
        have HRX := hid (hrx.below hbr)
        have HT1 := hid ht1
        have HT2 := hid ht2
        have HTK := hid htk
        have HGL := hid hgl
        have HGS := hid hgs
        clear hcell hcell2 hrx ht1 ht2 htk hgl hgs
        generalize ls[i] = x at *
        generalize ss[i] = y at *
        unfold sval at hck2
        have hbe : (x == y) = decide (x = y) := by by_cases hxy : x = y <;> simp [hxy]
        obtain ⟨q, hq⟩ : ∃ q : Bool, q = decide (x = y) := ⟨_, rfl⟩
        have HQ := hid hq
        rw [← hq] at hbe
        clear hq
        have hbn : (x != y) = !q := by unfold bne; rw [hbe]
        go_wp2_with fail
        refine wp_flow (by kernel_rfl) [0, 0, 3, 7, 15, 0, 0, 96, 224, 511] 10 [false, false, false, false, false, false, false, false, false, false, false, false, false, false, false, false, false, true, true, true, true, true, true, true, true, true, true] (by kernel_rfl) (by decide) (by kernel_rfl) [FP.eq (.slice (some ⟨b, off, none⟩) m c), FP.eq (.int .i64 (i : Int)), FP.eq (.pointer (some ⟨b, off + i, none⟩)), FP.eq (.slice A' x.length c'), FP.eq (.string ⟨x.toArray⟩), FP.eq (.slice (some ⟨b2, off2, none⟩) m c2), FP.eq (.int .i64 (i : Int)), FP.eq (.pointer (some ⟨b2, off2 + i, none⟩)), FP.eq (.string ⟨y.toArray⟩), FP.eq (.bool (!q))] ?_ ?_
        · refine allFrom_cons ?_ ?_
          · intro a_ w_ hk_
            have h0 : a_.eval (.tmp 0) = .slice (some ⟨b, off, none⟩) m c := hk_.old 0 (by kernel_rfl)
            have hx_ := hk_.ext
            clear hk_
            refine flow_plain rfl ?_
            exact gives_move rfl ⟨Below.refl _ _, h0⟩
          refine allFrom_cons ?_ ?_
          · intro a_ w_ hk_
            have h5 : a_.eval (.tmp 5) = .int .i64 (i : Int) := hk_.old 5 (by kernel_rfl)
            have hx_ := hk_.ext
            clear hk_
            refine flow_plain rfl ?_
            exact gives_move rfl ⟨Below.refl _ _, h5⟩
          refine allFrom_cons ?_ ?_
          · intro a_ w_ hk_
            have h17 : a_.eval (.tmp 17) = (.slice (some ⟨b, off, none⟩) m c) := hk_.got 0 17 _ (by kernel_rfl) rfl rfl
            have h18 : a_.eval (.tmp 18) = (.int .i64 (i : Int)) := hk_.got 1 18 _ (by kernel_rfl) rfl rfl
            have hx_ := hk_.ext
            clear hk_
            refine flow_plain rfl ?_
            unfold gives
            have hc_ : ∀ v, a_.eval (.const v) = v := fun _ => rfl
            have hn_ : ∀ f, a_.eval (.func f) = .func (.func f) #[] #[] := fun _ => rfl
            generalize a_.eval = ρ_ at *
            go_simp
            exact ⟨Below.refl _ _, rfl⟩
          refine allFrom_cons ?_ ?_
          · intro a_ w_ hk_
            have h19 : a_.eval (.tmp 19) = (.pointer (some ⟨b, off + i, none⟩)) := hk_.got 2 19 _ (by kernel_rfl) rfl rfl
            have hx_ := hk_.ext
            clear hk_
            refine flow_plain rfl ?_
            unfold gives
            have hc_ : ∀ v, a_.eval (.const v) = v := fun _ => rfl
            have hn_ : ∀ f, a_.eval (.func f) = .func (.func f) #[] #[] := fun _ => rfl
            have hcell := (hx_.cell (p := ⟨b, off + i, none⟩) lb1).trans hck
            generalize a_.eval = ρ_ at *
            go_simp
            exact ⟨Below.refl _ _, rfl⟩
          refine allFrom_cons ?_ ?_
          · intro a_ w_ hk_
            have h20 : a_.eval (.tmp 20) = (.slice A' x.length c') := hk_.got 3 20 _ (by kernel_rfl) rfl rfl
            have hx_ := hk_.ext
            clear hk_
            refine flow_plain rfl ?_
            unfold gives
            have hc_ : ∀ v, a_.eval (.const v) = v := fun _ => rfl
            have hn_ : ∀ f, a_.eval (.func f) = .func (.func f) #[] #[] := fun _ => rfl
            have hcv := convT c' (HRX.out.below (hx_.mono hbr.size))
            generalize a_.eval = ρ_ at *
            go_simp
            exact ⟨Below.refl _ _, rfl⟩
          refine allFrom_cons ?_ ?_
          · intro a_ w_ hk_
            have h1 : a_.eval (.tmp 1) = .slice (some ⟨b2, off2, none⟩) m c2 := hk_.old 1 (by kernel_rfl)
            have hx_ := hk_.ext
            clear hk_
            refine flow_plain rfl ?_
            exact gives_move rfl ⟨Below.refl _ _, h1⟩
          refine allFrom_cons ?_ ?_
          · intro a_ w_ hk_
            have h5 : a_.eval (.tmp 5) = .int .i64 (i : Int) := hk_.old 5 (by kernel_rfl)
            have hx_ := hk_.ext
            clear hk_
            refine flow_plain rfl ?_
            exact gives_move rfl ⟨Below.refl _ _, h5⟩
          refine allFrom_cons ?_ ?_
          · intro a_ w_ hk_
            have h22 : a_.eval (.tmp 22) = (.slice (some ⟨b2, off2, none⟩) m c2) := hk_.got 5 22 _ (by kernel_rfl) rfl rfl
            have h23 : a_.eval (.tmp 23) = (.int .i64 (i : Int)) := hk_.got 6 23 _ (by kernel_rfl) rfl rfl
            have hx_ := hk_.ext
            clear hk_
            refine flow_plain rfl ?_
            unfold gives
            have hc_ : ∀ v, a_.eval (.const v) = v := fun _ => rfl
            have hn_ : ∀ f, a_.eval (.func f) = .func (.func f) #[] #[] := fun _ => rfl
            generalize a_.eval = ρ_ at *
            go_simp
            exact ⟨Below.refl _ _, rfl⟩
          refine allFrom_cons ?_ ?_
          · intro a_ w_ hk_
            have h24 : a_.eval (.tmp 24) = (.pointer (some ⟨b2, off2 + i, none⟩)) := hk_.got 7 24 _ (by kernel_rfl) rfl rfl
            have hx_ := hk_.ext
            clear hk_
            refine flow_plain rfl ?_
            unfold gives
            have hc_ : ∀ v, a_.eval (.const v) = v := fun _ => rfl
            have hn_ : ∀ f, a_.eval (.func f) = .func (.func f) #[] #[] := fun _ => rfl
            have hcell := (hx_.cell (p := ⟨b2, off2 + i, none⟩) lb2).trans hck2
            generalize a_.eval = ρ_ at *
            go_simp
            exact ⟨Below.refl _ _, rfl⟩
          refine allFrom_cons ?_ ?_
          · intro a_ w_ hk_
            have h21 : a_.eval (.tmp 21) = (.string ⟨x.toArray⟩) := hk_.got 4 21 _ (by kernel_rfl) rfl rfl
            have h25 : a_.eval (.tmp 25) = (.string ⟨y.toArray⟩) := hk_.got 8 25 _ (by kernel_rfl) rfl rfl
            have hx_ := hk_.ext
            clear hk_
            refine flow_plain rfl ?_
            unfold gives
            have hc_ : ∀ v, a_.eval (.const v) = v := fun _ => rfl
            have hn_ : ∀ f, a_.eval (.func f) = .func (.func f) #[] #[] := fun _ => rfl
            generalize a_.eval = ρ_ at *
            go_simp
            exact ⟨Below.refl _ _, rfl⟩
          exact allFrom_nil
        intro f_ w_ hx_ hf_
        have h17 : f_ 17 = (.slice (some ⟨b, off, none⟩) m c) := hf_ 0 17 _ (by decide) rfl rfl
        have h18 : f_ 18 = (.int .i64 (i : Int)) := hf_ 1 18 _ (by decide) rfl rfl
        have h19 : f_ 19 = (.pointer (some ⟨b, off + i, none⟩)) := hf_ 2 19 _ (by decide) rfl rfl
        have h20 : f_ 20 = (.slice A' x.length c') := hf_ 3 20 _ (by decide) rfl rfl
        have h21 : f_ 21 = (.string ⟨x.toArray⟩) := hf_ 4 21 _ (by decide) rfl rfl
        have h22 : f_ 22 = (.slice (some ⟨b2, off2, none⟩) m c2) := hf_ 5 22 _ (by decide) rfl rfl
        have h23 : f_ 23 = (.int .i64 (i : Int)) := hf_ 6 23 _ (by decide) rfl rfl
        have h24 : f_ 24 = (.pointer (some ⟨b2, off2 + i, none⟩)) := hf_ 7 24 _ (by decide) rfl rfl
        have h25 : f_ 25 = (.string ⟨y.toArray⟩) := hf_ 8 25 _ (by decide) rfl rfl
        have h26 : f_ 26 = (.bool (!q)) := hf_ 9 26 _ (by decide) rfl rfl
        simp only [mix, List.drop_succ_cons, List.drop_zero, h17, h18, h19, h20, h21, h22, h23, h24, h25, h26]
        clear h17 h18 h19 h20 h21 h22 h23 h24 h25 h26
        clear hf_
        cases q with
        | true =>
          go_wp2_with fail
          have hxy : x = y := of_decide_eq_true HQ.out.symm
          refine ⟨⟨i + 1, hlt, by push_cast; rfl, by rw [HT1.out, HT2.out, HTK.out, hxy], bx_trans hbr hx_⟩, by show m - ((i : Int) + 1).toNat < m - (i : Int).toNat; omega⟩
        | false =>
          go_wp2_with fail
          have hxy : ¬ x = y := of_decide_eq_false HQ.out.symm
          have hsb : sameB ls ss = false := decide_eq_false (fun e => by
            have h1 := HGL.out
            rw [e, HGS.out] at h1
            injection h1 with h1
            exact hxy h1.symm)
          exact bodyPost_ret (results_tmp rfl _ _ _) rfl ⟨by rw [hsb]; rfl, bx_trans hbr hx_⟩
      · have him : i = m := by omega
        subst him
        rw [List.take_of_length_le (Nat.le_of_eq HLEN.out), List.take_of_length_le (Nat.le_of_eq HM.out.symm)] at htk
        have hsb : sameB ls ss = true := decide_eq_true htk
        have HSB := hid hsb
        clear hsb htk
        go_wp2_with fail
        exact bodyPost_ret (results_tmp rfl _ _ _) rfl ⟨by rw [HSB.out]; rfl, hbr⟩
  · have hne : ((ls.length : Int) == (m : Int)) = false := by simp; omega
    have hne2 : ((ls.length : Int) != (m : Int)) = true := by simp; omega
    have HLEN := hid hlen
    clear hlen
    go_wp2_with fail
    have hsb : sameB ls ss = false := decide_eq_false (fun e => HLEN.out (by rw [HM.out, e]))
    exact bodyPost_ret (results_tmp rfl _ _ _) rfl ⟨by rw [hsb]; rfl, Below.refl _ _⟩
end Go.Proofs.Ytlpdiamgpnmeoaa
