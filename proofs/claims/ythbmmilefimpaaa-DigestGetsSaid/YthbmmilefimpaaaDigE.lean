
/- Those of a row that are not in another one, by definition. -/
import Derived.Test.YthbmmilefimpaaaDigD
namespace Go.Proofs.Ythbmmilefimpaaa
open Go.RowKit Go.Maps
set_option linter.unusedVariables false
set_option maxRecDepth 10000 in
set_option maxHeartbeats 1000000 in
theorem NotK_any (w : World) {A1 A2 : Option Addr} {c1 c2 : Nat} {l other : List Key} (hok1 : ∀ k ∈ l, kOk k) (hok2 : ∀ k ∈ other, kOk k) (hr1 : Rd w w.heap.size A1 (l.map kc).flatten) (hr2 : Rd w w.heap.size A2 (other.map kc).flatten) (hl1 : l.length ≤ 100000) (hl2 : other.length ≤ 100000) :
    Calls Try.prog 15 #[.slice A1 l.length c1, .slice A2 other.length c2] w fun e w' => ∃ v, e = .returned v ∧ w'.ownsRow w.heap.size 54 33 v (nots l other).length ((nots l other).map kc).flatten ∧ Below w.heap.size w w' := by
  have HR1 := hid hr1
  have HR2 := hid hr2
  have HO1 := hid hok1
  have HO2 := hid hok2
  clear hr1 hr2 hok1 hok2
  go_enter Try.func15, Try.ntmps15
  go_wp2
  go_loopw [5, 6] (fun v j wr => ∃ (i : Nat), i ≤ l.length ∧ j = .int .i64 i ∧ wr.ownsRow w.heap.size 54 33 v (nots (l.take i) other).length ((nots (l.take i) other).map kc).flatten ∧ Below w.heap.size w wr) (fun _ j _ => l.length - (intOf j).toNat)
  case atStart => exact ⟨0, by omega, rfl, World.ownsRow_nil _ _ _ _, Below.refl _ _⟩
  case round =>
    obtain ⟨i, hi, rfl, hown, hbr⟩ := hrel
    rename World => wo
    obtain ⟨A9, c9, rfl, _, _, _⟩ := own_form hown
    by_cases hlt : i < l.length
    · obtain ⟨b1, off1, rfl, hbb1, hd1⟩ := rd_item (i := i) HR1.out (mapLenK HO1.out) (by decide) (by rw [List.length_map]; exact hlt)
      rw [List.getElem_map] at hd1
      have hx := HO1.out _ (List.getElem_mem hlt)
      have htk : l.take (i + 1) = l.take i ++ [l[i]] := List.take_succ_eq_append_getElem hlt
      have hns := nots_snoc (l.take i) other l[i]
      have hnl : (nots (l.take i) other).length ≤ 100000 := by have := nots_len other (l.take i) []; rw [List.length_take] at this; show (notsL other [] (l.take i)).length ≤ _; omega
      rw [← htk] at hns
      have HNS := hid hns
      clear htk hns
      generalize l[i] = x at *
      have hdr1 : ∀ w_, Below w.heap.size w w_ → ∀ j v, (kc x)[j]? = some v → w_.cell? ⟨b1, off1 + i * 33 + j, none⟩ = some v := fun w_ hb j v hv => (hb.cell (p := ⟨b1, off1 + i * 33 + j, none⟩) hbb1).trans (hd1 j v hv)
      have HD1 := hid hdr1
      clear hdr1 hd1
      go_wp2
      go_loopw [7, 8] (fun v j wr2 => ∃ (k : Nat), k ≤ other.length ∧ j = .int .i64 k ∧ v = .bool (decide (x ∈ other.take k)) ∧ Below wo.heap.size wo wr2) (fun _ j _ => other.length - (intOf j).toNat)
      case atStart => exact ⟨0, by omega, rfl, by simp, Below.refl _ _⟩
      case round =>
        obtain ⟨k, hk, rfl, rfl, hbi⟩ := hrel
        have hbr2 := bx_trans hbr hbi
        by_cases hlk : k < other.length
        · have hlk2 : k < other.length := by omega
          obtain ⟨y, hyd⟩ : ∃ y, y = other[k] := ⟨_, rfl⟩
          have hy : kOk y := by rw [hyd]; exact HO2.out _ (List.getElem_mem hlk2)
          have htk : other.take (k + 1) = other.take k ++ [y] := by rw [hyd]; exact List.take_succ_eq_append_getElem hlk2
          have hmem : (x ∈ other.take (k + 1)) = (x ∈ other.take k ∨ x = y) := by rw [htk]; simp [List.mem_append]
          have HM := hid hmem
          clear htk hmem
          obtain ⟨by1, oy1, hA2, hbby, hdy⟩ := rd_item (i := k) HR2.out (mapLenK HO2.out) (by decide) (by rw [List.length_map]; exact hlk2)
          subst hA2
          rw [List.getElem_map, ← hyd] at hdy
          clear hyd
          have hdr2 : ∀ w_, Below w.heap.size w w_ → ∀ j v, (kc y)[j]? = some v → w_.cell? ⟨by1, oy1 + k * 33 + j, none⟩ = some v := fun w_ hb j v hv => (hb.cell (p := ⟨by1, oy1 + k * 33 + j, none⟩) hbby).trans (hdy j v hv)
          have HD2 := hid hdr2
          clear hdr2 hdy
          by_cases hin : x ∈ other.take k
          · rw [decide_eq_true hin]
            have hin2 := decide_eq_true (HM.out.symm ▸ Or.inl hin : x ∈ other.take (k + 1))
            have HIN := hid hin2
            clear hin2
            go_wp2
            refine wp_flow (by kernel_rfl) [0, 1, 3, 3, 15, 31, 3, 3, 195, 451, 1023, 2047, 4095] 12 [false, false, false, false, false, false, false, false, false, false, false, false, false, false, false, false, false, false, false, false, false, false, true, true, true, true, true, true, true, true, true, true, true, true] (by kernel_rfl) (by decide) (by kernel_rfl) [FP.eq (.bool true), FP.eq (.bool true), FP.any, FP.any, FP.any, FP.any, FP.any, FP.any, FP.any, FP.any, FP.any, FP.eq (.bool true)] ?_ ?_
            · refine allFrom_cons ?_ ?_
              · intro a_ w_ hk_
                have h7 : a_.eval (.tmp 7) = .bool true := hk_.old 7 (by kernel_rfl)
                have hx_ := hk_.ext
                clear hk_
                refine flow_plain rfl ?_
                exact gives_move rfl ⟨Below.refl _ _, h7⟩
              refine allFrom_cons ?_ ?_
              · intro a_ w_ hk_
                have h22 : a_.eval (.tmp 22) = (.bool true) := hk_.got 0 22 _ (by kernel_rfl) rfl rfl
                have hx_ := hk_.ext
                clear hk_
                refine flow_plain rfl ?_
                exact gives_move rfl ⟨Below.refl _ _, h22⟩
              refine allFrom_cons ?_ ?_
              · intro a_ w_ hk_
                have h1 : a_.eval (.tmp 1) = .slice (some ⟨by1, oy1, none⟩) other.length c2 := hk_.old 1 (by kernel_rfl)
                have hg_ : a_.eval (.tmp 23) = .bool true := hk_.got 1 23 _ (by kernel_rfl) rfl rfl
                have hy_ := hk_.want 1 _ 23 true rfl rfl hg_
                have hx_ := hk_.ext
                clear hk_
                exact flow_skip rfl hy_ (by decide) trivial
              refine allFrom_cons ?_ ?_
              · intro a_ w_ hk_
                have h8 : a_.eval (.tmp 8) = .int .i64 (k : Int) := hk_.old 8 (by kernel_rfl)
                have hg_ : a_.eval (.tmp 23) = .bool true := hk_.got 1 23 _ (by kernel_rfl) rfl rfl
                have hy_ := hk_.want 1 _ 23 true rfl rfl hg_
                have hx_ := hk_.ext
                clear hk_
                exact flow_skip rfl hy_ (by decide) trivial
              refine allFrom_cons ?_ ?_
              · intro a_ w_ hk_
                have hg_ : a_.eval (.tmp 23) = .bool true := hk_.got 1 23 _ (by kernel_rfl) rfl rfl
                have hy_ := hk_.want 1 _ 23 true rfl rfl hg_
                have hx_ := hk_.ext
                clear hk_
                exact flow_skip rfl hy_ (by decide) trivial
              refine allFrom_cons ?_ ?_
              · intro a_ w_ hk_
                have hg_ : a_.eval (.tmp 23) = .bool true := hk_.got 1 23 _ (by kernel_rfl) rfl rfl
                have hy_ := hk_.want 1 _ 23 true rfl rfl hg_
                have hx_ := hk_.ext
                clear hk_
                exact flow_skip rfl hy_ (by decide) trivial
              refine allFrom_cons ?_ ?_
              · intro a_ w_ hk_
                have h0 : a_.eval (.tmp 0) = .slice (some ⟨b1, off1, none⟩) l.length c1 := hk_.old 0 (by kernel_rfl)
                have hg_ : a_.eval (.tmp 23) = .bool true := hk_.got 1 23 _ (by kernel_rfl) rfl rfl
                have hy_ := hk_.want 1 _ 23 true rfl rfl hg_
                have hx_ := hk_.ext
                clear hk_
                exact flow_skip rfl hy_ (by decide) trivial
              refine allFrom_cons ?_ ?_
              · intro a_ w_ hk_
                have h6 : a_.eval (.tmp 6) = .int .i64 (i : Int) := hk_.old 6 (by kernel_rfl)
                have hg_ : a_.eval (.tmp 23) = .bool true := hk_.got 1 23 _ (by kernel_rfl) rfl rfl
                have hy_ := hk_.want 1 _ 23 true rfl rfl hg_
                have hx_ := hk_.ext
                clear hk_
                exact flow_skip rfl hy_ (by decide) trivial
              refine allFrom_cons ?_ ?_
              · intro a_ w_ hk_
                have hg_ : a_.eval (.tmp 23) = .bool true := hk_.got 1 23 _ (by kernel_rfl) rfl rfl
                have hy_ := hk_.want 1 _ 23 true rfl rfl hg_
                have hx_ := hk_.ext
                clear hk_
                exact flow_skip rfl hy_ (by decide) trivial
              refine allFrom_cons ?_ ?_
              · intro a_ w_ hk_
                have hg_ : a_.eval (.tmp 23) = .bool true := hk_.got 1 23 _ (by kernel_rfl) rfl rfl
                have hy_ := hk_.want 1 _ 23 true rfl rfl hg_
                have hx_ := hk_.ext
                clear hk_
                exact flow_skip rfl hy_ (by decide) trivial
              refine allFrom_cons ?_ ?_
              · intro a_ w_ hk_
                have hg_ : a_.eval (.tmp 23) = .bool true := hk_.got 1 23 _ (by kernel_rfl) rfl rfl
                have hy_ := hk_.want 1 _ 23 true rfl rfl hg_
                have hx_ := hk_.ext
                clear hk_
                exact flow_skip rfl hy_ (by decide) trivial
              refine allFrom_cons ?_ ?_
              · intro a_ w_ hk_
                have h23 : a_.eval (.tmp 23) = (.bool true) := hk_.got 1 23 _ (by kernel_rfl) rfl rfl
                have hx_ := hk_.ext
                clear hk_
                refine flow_plain rfl ?_
                exact gives_pick rfl h23 ⟨Below.refl _ _, rfl⟩
              exact allFrom_nil
            intro f_ w_ hx_ hf_
            have h22 : f_ 22 = (.bool true) := hf_ 0 22 _ (by decide) rfl rfl
            have h23 : f_ 23 = (.bool true) := hf_ 1 23 _ (by decide) rfl rfl
            have h33 : f_ 33 = (.bool true) := hf_ 11 33 _ (by decide) rfl rfl
            simp only [mix, List.drop_succ_cons, List.drop_zero, h22, h23, h33]
            clear h22 h23 h33
            clear hf_
            go_wp2
            go_roundw
            case rel => exact ⟨k + 1, by omega, by go_num, by rw [HIN.out], hbi.trans (hx_.mono hbi.size)⟩
            case measure => simp [intOf]; omega
          · rw [decide_eq_false hin]
            have hin2 : decide (x ∈ other.take (k + 1)) = decide (y = x) := by rw [decide_eq_decide, HM.out]; exact ⟨fun h => h.elim (fun h => absurd h hin) (fun h => h.symm), fun h => Or.inr h.symm⟩
            have HIN := hid hin2
            clear hin2
            go_wp2
            refine wp_flow (by kernel_rfl) [0, 1, 3, 3, 15, 31, 3, 3, 195, 451, 1023, 2047, 4095] 12 [false, false, false, false, false, false, false, false, false, false, false, false, false, false, false, false, false, false, false, false, false, false, true, true, true, true, true, true, true, true, true, true, true, true] (by kernel_rfl) (by decide) (by kernel_rfl) [FP.eq (.bool false), FP.eq (.bool false), FP.eq (.slice (some ⟨by1, oy1, none⟩) other.length c2), FP.eq (.int .i64 (k : Int)), FP.eq (.pointer (some ⟨by1, oy1 + k * 33, none⟩)), FP.eq (.agg (kc y).toArray), FP.eq (.slice (some ⟨b1, off1, none⟩) l.length c1), FP.eq (.int .i64 (i : Int)), FP.eq (.pointer (some ⟨b1, off1 + i * 33, none⟩)), FP.eq (.agg (kc x).toArray), FP.eq (.bool (decide (y = x))), FP.eq (.bool (decide (y = x)))] ?_ ?_
            · refine allFrom_cons ?_ ?_
              · intro a_ w_ hk_
                have h7 : a_.eval (.tmp 7) = .bool false := hk_.old 7 (by kernel_rfl)
                have hx_ := hk_.ext
                clear hk_
                refine flow_plain rfl ?_
                exact gives_move rfl ⟨Below.refl _ _, h7⟩
              refine allFrom_cons ?_ ?_
              · intro a_ w_ hk_
                have h22 : a_.eval (.tmp 22) = (.bool false) := hk_.got 0 22 _ (by kernel_rfl) rfl rfl
                have hx_ := hk_.ext
                clear hk_
                refine flow_plain rfl ?_
                exact gives_move rfl ⟨Below.refl _ _, h22⟩
              refine allFrom_cons ?_ ?_
              · intro a_ w_ hk_
                have h1 : a_.eval (.tmp 1) = .slice (some ⟨by1, oy1, none⟩) other.length c2 := hk_.old 1 (by kernel_rfl)
                have hg_ : a_.eval (.tmp 23) = .bool false := hk_.got 1 23 _ (by kernel_rfl) rfl rfl
                have hy_ := hk_.want 1 _ 23 false rfl rfl hg_
                have hx_ := hk_.ext
                clear hk_
                refine flow_want rfl hy_ ?_
                exact gives_move rfl ⟨Below.refl _ _, h1⟩
              refine allFrom_cons ?_ ?_
              · intro a_ w_ hk_
                have h8 : a_.eval (.tmp 8) = .int .i64 (k : Int) := hk_.old 8 (by kernel_rfl)
                have hg_ : a_.eval (.tmp 23) = .bool false := hk_.got 1 23 _ (by kernel_rfl) rfl rfl
                have hy_ := hk_.want 1 _ 23 false rfl rfl hg_
                have hx_ := hk_.ext
                clear hk_
                refine flow_want rfl hy_ ?_
                exact gives_move rfl ⟨Below.refl _ _, h8⟩
              refine allFrom_cons ?_ ?_
              · intro a_ w_ hk_
                have h24 : a_.eval (.tmp 24) = (.slice (some ⟨by1, oy1, none⟩) other.length c2) := hk_.got 2 24 _ (by kernel_rfl) rfl rfl
                have h25 : a_.eval (.tmp 25) = (.int .i64 (k : Int)) := hk_.got 3 25 _ (by kernel_rfl) rfl rfl
                have hg_ : a_.eval (.tmp 23) = .bool false := hk_.got 1 23 _ (by kernel_rfl) rfl rfl
                have hy_ := hk_.want 1 _ 23 false rfl rfl hg_
                have hx_ := hk_.ext
                clear hk_
                refine flow_want rfl hy_ ?_
                unfold gives
                have hc_ : ∀ v, a_.eval (.const v) = v := fun _ => rfl
                have hn_ : ∀ f, a_.eval (.func f) = .func (.func f) #[] #[] := fun _ => rfl
                clear hy_ hg_
                generalize a_.eval = ρ_ at *
                go_simp
                exact ⟨Below.refl _ _, rfl⟩
              refine allFrom_cons ?_ ?_
              · intro a_ w_ hk_
                have h26 : a_.eval (.tmp 26) = (.pointer (some ⟨by1, oy1 + k * 33, none⟩)) := hk_.got 4 26 _ (by kernel_rfl) rfl rfl
                have hg_ : a_.eval (.tmp 23) = .bool false := hk_.got 1 23 _ (by kernel_rfl) rfl rfl
                have hy_ := hk_.want 1 _ 23 false rfl rfl hg_
                have hx_ := hk_.ext
                clear hk_
                refine flow_want rfl hy_ ?_
                exact gives_loadA rfl h26 (aggKc hy) (HD2.out _ (hbr2.trans (hx_.mono hbr2.size))) ⟨Below.refl _ _, rfl⟩
              refine allFrom_cons ?_ ?_
              · intro a_ w_ hk_
                have h0 : a_.eval (.tmp 0) = .slice (some ⟨b1, off1, none⟩) l.length c1 := hk_.old 0 (by kernel_rfl)
                have hg_ : a_.eval (.tmp 23) = .bool false := hk_.got 1 23 _ (by kernel_rfl) rfl rfl
                have hy_ := hk_.want 1 _ 23 false rfl rfl hg_
                have hx_ := hk_.ext
                clear hk_
                refine flow_want rfl hy_ ?_
                exact gives_move rfl ⟨Below.refl _ _, h0⟩
              refine allFrom_cons ?_ ?_
              · intro a_ w_ hk_
                have h6 : a_.eval (.tmp 6) = .int .i64 (i : Int) := hk_.old 6 (by kernel_rfl)
                have hg_ : a_.eval (.tmp 23) = .bool false := hk_.got 1 23 _ (by kernel_rfl) rfl rfl
                have hy_ := hk_.want 1 _ 23 false rfl rfl hg_
                have hx_ := hk_.ext
                clear hk_
                refine flow_want rfl hy_ ?_
                exact gives_move rfl ⟨Below.refl _ _, h6⟩
              refine allFrom_cons ?_ ?_
              · intro a_ w_ hk_
                have h28 : a_.eval (.tmp 28) = (.slice (some ⟨b1, off1, none⟩) l.length c1) := hk_.got 6 28 _ (by kernel_rfl) rfl rfl
                have h29 : a_.eval (.tmp 29) = (.int .i64 (i : Int)) := hk_.got 7 29 _ (by kernel_rfl) rfl rfl
                have hg_ : a_.eval (.tmp 23) = .bool false := hk_.got 1 23 _ (by kernel_rfl) rfl rfl
                have hy_ := hk_.want 1 _ 23 false rfl rfl hg_
                have hx_ := hk_.ext
                clear hk_
                refine flow_want rfl hy_ ?_
                unfold gives
                have hc_ : ∀ v, a_.eval (.const v) = v := fun _ => rfl
                have hn_ : ∀ f, a_.eval (.func f) = .func (.func f) #[] #[] := fun _ => rfl
                clear hy_ hg_
                generalize a_.eval = ρ_ at *
                go_simp
                exact ⟨Below.refl _ _, rfl⟩
              refine allFrom_cons ?_ ?_
              · intro a_ w_ hk_
                have h30 : a_.eval (.tmp 30) = (.pointer (some ⟨b1, off1 + i * 33, none⟩)) := hk_.got 8 30 _ (by kernel_rfl) rfl rfl
                have hg_ : a_.eval (.tmp 23) = .bool false := hk_.got 1 23 _ (by kernel_rfl) rfl rfl
                have hy_ := hk_.want 1 _ 23 false rfl rfl hg_
                have hx_ := hk_.ext
                clear hk_
                refine flow_want rfl hy_ ?_
                exact gives_loadA rfl h30 (aggKc hx) (HD1.out _ (hbr2.trans (hx_.mono hbr2.size))) ⟨Below.refl _ _, rfl⟩
              refine allFrom_cons ?_ ?_
              · intro a_ w_ hk_
                have h27 : a_.eval (.tmp 27) = (.agg (kc y).toArray) := hk_.got 5 27 _ (by kernel_rfl) rfl rfl
                have h31 : a_.eval (.tmp 31) = (.agg (kc x).toArray) := hk_.got 9 31 _ (by kernel_rfl) rfl rfl
                have hg_ : a_.eval (.tmp 23) = .bool false := hk_.got 1 23 _ (by kernel_rfl) rfl rfl
                have hy_ := hk_.want 1 _ 23 false rfl rfl hg_
                have hx_ := hk_.ext
                clear hk_
                refine flow_want rfl hy_ ?_
                exact gives_eqA guardK rfl h27 h31 (eqK hy hx w_) ⟨Below.refl _ _, rfl⟩
              refine allFrom_cons ?_ ?_
              · intro a_ w_ hk_
                have h23 : a_.eval (.tmp 23) = (.bool false) := hk_.got 1 23 _ (by kernel_rfl) rfl rfl
                have h32 : a_.eval (.tmp 32) = (.bool (decide (y = x))) := hk_.got 10 32 _ (by kernel_rfl) rfl rfl
                have hx_ := hk_.ext
                clear hk_
                refine flow_plain rfl ?_
                exact gives_pick rfl h23 ⟨Below.refl _ _, h32⟩
              exact allFrom_nil
            intro f_ w_ hx_ hf_
            have h22 : f_ 22 = (.bool false) := hf_ 0 22 _ (by decide) rfl rfl
            have h23 : f_ 23 = (.bool false) := hf_ 1 23 _ (by decide) rfl rfl
            have h24 : f_ 24 = (.slice (some ⟨by1, oy1, none⟩) other.length c2) := hf_ 2 24 _ (by decide) rfl rfl
            have h25 : f_ 25 = (.int .i64 (k : Int)) := hf_ 3 25 _ (by decide) rfl rfl
            have h26 : f_ 26 = (.pointer (some ⟨by1, oy1 + k * 33, none⟩)) := hf_ 4 26 _ (by decide) rfl rfl
            have h27 : f_ 27 = (.agg (kc y).toArray) := hf_ 5 27 _ (by decide) rfl rfl
            have h28 : f_ 28 = (.slice (some ⟨b1, off1, none⟩) l.length c1) := hf_ 6 28 _ (by decide) rfl rfl
            have h29 : f_ 29 = (.int .i64 (i : Int)) := hf_ 7 29 _ (by decide) rfl rfl
            have h30 : f_ 30 = (.pointer (some ⟨b1, off1 + i * 33, none⟩)) := hf_ 8 30 _ (by decide) rfl rfl
            have h31 : f_ 31 = (.agg (kc x).toArray) := hf_ 9 31 _ (by decide) rfl rfl
            have h32 : f_ 32 = (.bool (decide (y = x))) := hf_ 10 32 _ (by decide) rfl rfl
            have h33 : f_ 33 = (.bool (decide (y = x))) := hf_ 11 33 _ (by decide) rfl rfl
            simp only [mix, List.drop_succ_cons, List.drop_zero, h22, h23, h24, h25, h26, h27, h28, h29, h30, h31, h32, h33]
            clear h22 h23 h24 h25 h26 h27 h28 h29 h30 h31 h32 h33
            clear hf_
            go_wp2
            go_roundw
            case rel => exact ⟨k + 1, by omega, by go_num, by rw [HIN.out], hbi.trans (hx_.mono hbi.size)⟩
            case measure => simp [intOf]; omega
        · have hbw2 := hbi
          obtain rfl : k = other.length := by omega
          rw [List.take_length]
          clear hk hlk
          go_wp2
          go_loopw [7, 9] (fun v j wr2 => ∃ (k : Nat), k ≤ i ∧ j = .int .i64 k ∧ v = .bool (decide (x ∈ other ++ l.take k)) ∧ Below wo.heap.size wo wr2) (fun _ j _ => i - (intOf j).toNat)
          case atStart => exact ⟨0, by omega, rfl, by rw [List.take_zero, List.append_nil], hbw2⟩
          case round =>
            obtain ⟨k, hk, rfl, rfl, hbi⟩ := hrel
            have hbr2 := bx_trans hbr hbi
            by_cases hlk : k < i
            · have hlk2 : k < l.length := by omega
              obtain ⟨y, hyd⟩ : ∃ y, y = l[k] := ⟨_, rfl⟩
              have hy : kOk y := by rw [hyd]; exact HO1.out _ (List.getElem_mem hlk2)
              have htk : l.take (k + 1) = l.take k ++ [y] := by rw [hyd]; exact List.take_succ_eq_append_getElem hlk2
              have hmem : (x ∈ other ++ l.take (k + 1)) = (x ∈ other ++ l.take k ∨ x = y) := by rw [htk]; simp [List.mem_append, or_assoc]
              have HM := hid hmem
              clear htk hmem
              obtain ⟨by1, oy1, hA2, hbby, hdy⟩ := rd_item (i := k) HR1.out (mapLenK HO1.out) (by decide) (by rw [List.length_map]; exact hlk2)
              injection hA2 with hA2
              injection hA2 with hA2 hA3
              subst hA2 hA3
              rw [List.getElem_map, ← hyd] at hdy
              clear hyd
              have hdr2 : ∀ w_, Below w.heap.size w w_ → ∀ j v, (kc y)[j]? = some v → w_.cell? ⟨b1, off1 + k * 33 + j, none⟩ = some v := fun w_ hb j v hv => (hb.cell (p := ⟨b1, off1 + k * 33 + j, none⟩) hbby).trans (hdy j v hv)
              have HD2 := hid hdr2
              clear hdr2 hdy
              by_cases hin : x ∈ other ++ l.take k
              · rw [decide_eq_true hin]
                have hin2 := decide_eq_true (HM.out.symm ▸ Or.inl hin : x ∈ other ++ l.take (k + 1))
                have HIN := hid hin2
                clear hin2
                go_wp2
                refine wp_flow (by kernel_rfl) [0, 1, 3, 3, 15, 31, 3, 3, 195, 451, 1023, 2047, 4095] 12 [false, false, false, false, false, false, false, false, false, false, false, false, false, false, false, false, false, false, false, false, false, false, false, false, false, false, false, false, false, false, false, false, false, false, false, false, false, false, false, true, true, true, true, true, true, true, true, true, true, true, true] (by kernel_rfl) (by decide) (by kernel_rfl) [FP.eq (.bool true), FP.eq (.bool true), FP.any, FP.any, FP.any, FP.any, FP.any, FP.any, FP.any, FP.any, FP.any, FP.eq (.bool true)] ?_ ?_
                · refine allFrom_cons ?_ ?_
                  · intro a_ w_ hk_
                    have h7 : a_.eval (.tmp 7) = .bool true := hk_.old 7 (by kernel_rfl)
                    have hx_ := hk_.ext
                    clear hk_
                    refine flow_plain rfl ?_
                    exact gives_move rfl ⟨Below.refl _ _, h7⟩
                  refine allFrom_cons ?_ ?_
                  · intro a_ w_ hk_
                    have h39 : a_.eval (.tmp 39) = (.bool true) := hk_.got 0 39 _ (by kernel_rfl) rfl rfl
                    have hx_ := hk_.ext
                    clear hk_
                    refine flow_plain rfl ?_
                    exact gives_move rfl ⟨Below.refl _ _, h39⟩
                  refine allFrom_cons ?_ ?_
                  · intro a_ w_ hk_
                    have h0 : a_.eval (.tmp 0) = .slice (some ⟨b1, off1, none⟩) l.length c1 := hk_.old 0 (by kernel_rfl)
                    have hg_ : a_.eval (.tmp 40) = .bool true := hk_.got 1 40 _ (by kernel_rfl) rfl rfl
                    have hy_ := hk_.want 1 _ 40 true rfl rfl hg_
                    have hx_ := hk_.ext
                    clear hk_
                    exact flow_skip rfl hy_ (by decide) trivial
                  refine allFrom_cons ?_ ?_
                  · intro a_ w_ hk_
                    have h9 : a_.eval (.tmp 9) = .int .i64 (k : Int) := hk_.old 9 (by kernel_rfl)
                    have hg_ : a_.eval (.tmp 40) = .bool true := hk_.got 1 40 _ (by kernel_rfl) rfl rfl
                    have hy_ := hk_.want 1 _ 40 true rfl rfl hg_
                    have hx_ := hk_.ext
                    clear hk_
                    exact flow_skip rfl hy_ (by decide) trivial
                  refine allFrom_cons ?_ ?_
                  · intro a_ w_ hk_
                    have hg_ : a_.eval (.tmp 40) = .bool true := hk_.got 1 40 _ (by kernel_rfl) rfl rfl
                    have hy_ := hk_.want 1 _ 40 true rfl rfl hg_
                    have hx_ := hk_.ext
                    clear hk_
                    exact flow_skip rfl hy_ (by decide) trivial
                  refine allFrom_cons ?_ ?_
                  · intro a_ w_ hk_
                    have hg_ : a_.eval (.tmp 40) = .bool true := hk_.got 1 40 _ (by kernel_rfl) rfl rfl
                    have hy_ := hk_.want 1 _ 40 true rfl rfl hg_
                    have hx_ := hk_.ext
                    clear hk_
                    exact flow_skip rfl hy_ (by decide) trivial
                  refine allFrom_cons ?_ ?_
                  · intro a_ w_ hk_
                    have h0 : a_.eval (.tmp 0) = .slice (some ⟨b1, off1, none⟩) l.length c1 := hk_.old 0 (by kernel_rfl)
                    have hg_ : a_.eval (.tmp 40) = .bool true := hk_.got 1 40 _ (by kernel_rfl) rfl rfl
                    have hy_ := hk_.want 1 _ 40 true rfl rfl hg_
                    have hx_ := hk_.ext
                    clear hk_
                    exact flow_skip rfl hy_ (by decide) trivial
                  refine allFrom_cons ?_ ?_
                  · intro a_ w_ hk_
                    have h6 : a_.eval (.tmp 6) = .int .i64 (i : Int) := hk_.old 6 (by kernel_rfl)
                    have hg_ : a_.eval (.tmp 40) = .bool true := hk_.got 1 40 _ (by kernel_rfl) rfl rfl
                    have hy_ := hk_.want 1 _ 40 true rfl rfl hg_
                    have hx_ := hk_.ext
                    clear hk_
                    exact flow_skip rfl hy_ (by decide) trivial
                  refine allFrom_cons ?_ ?_
                  · intro a_ w_ hk_
                    have hg_ : a_.eval (.tmp 40) = .bool true := hk_.got 1 40 _ (by kernel_rfl) rfl rfl
                    have hy_ := hk_.want 1 _ 40 true rfl rfl hg_
                    have hx_ := hk_.ext
                    clear hk_
                    exact flow_skip rfl hy_ (by decide) trivial
                  refine allFrom_cons ?_ ?_
                  · intro a_ w_ hk_
                    have hg_ : a_.eval (.tmp 40) = .bool true := hk_.got 1 40 _ (by kernel_rfl) rfl rfl
                    have hy_ := hk_.want 1 _ 40 true rfl rfl hg_
                    have hx_ := hk_.ext
                    clear hk_
                    exact flow_skip rfl hy_ (by decide) trivial
                  refine allFrom_cons ?_ ?_
                  · intro a_ w_ hk_
                    have hg_ : a_.eval (.tmp 40) = .bool true := hk_.got 1 40 _ (by kernel_rfl) rfl rfl
                    have hy_ := hk_.want 1 _ 40 true rfl rfl hg_
                    have hx_ := hk_.ext
                    clear hk_
                    exact flow_skip rfl hy_ (by decide) trivial
                  refine allFrom_cons ?_ ?_
                  · intro a_ w_ hk_
                    have h40 : a_.eval (.tmp 40) = (.bool true) := hk_.got 1 40 _ (by kernel_rfl) rfl rfl
                    have hx_ := hk_.ext
                    clear hk_
                    refine flow_plain rfl ?_
                    exact gives_pick rfl h40 ⟨Below.refl _ _, rfl⟩
                  exact allFrom_nil
                intro f_ w_ hx_ hf_
                have h39 : f_ 39 = (.bool true) := hf_ 0 39 _ (by decide) rfl rfl
                have h40 : f_ 40 = (.bool true) := hf_ 1 40 _ (by decide) rfl rfl
                have h50 : f_ 50 = (.bool true) := hf_ 11 50 _ (by decide) rfl rfl
                simp only [mix, List.drop_succ_cons, List.drop_zero, h39, h40, h50]
                clear h39 h40 h50
                clear hf_
                go_wp2
                go_roundw
                case rel => exact ⟨k + 1, by omega, by go_num, by rw [HIN.out], hbi.trans (hx_.mono hbi.size)⟩
                case measure => simp [intOf]; omega
              · rw [decide_eq_false hin]
                have hin2 : decide (x ∈ other ++ l.take (k + 1)) = decide (y = x) := by rw [decide_eq_decide, HM.out]; exact ⟨fun h => h.elim (fun h => absurd h hin) (fun h => h.symm), fun h => Or.inr h.symm⟩
                have HIN := hid hin2
                clear hin2
                go_wp2
                refine wp_flow (by kernel_rfl) [0, 1, 3, 3, 15, 31, 3, 3, 195, 451, 1023, 2047, 4095] 12 [false, false, false, false, false, false, false, false, false, false, false, false, false, false, false, false, false, false, false, false, false, false, false, false, false, false, false, false, false, false, false, false, false, false, false, false, false, false, false, true, true, true, true, true, true, true, true, true, true, true, true] (by kernel_rfl) (by decide) (by kernel_rfl) [FP.eq (.bool false), FP.eq (.bool false), FP.eq (.slice (some ⟨b1, off1, none⟩) l.length c1), FP.eq (.int .i64 (k : Int)), FP.eq (.pointer (some ⟨b1, off1 + k * 33, none⟩)), FP.eq (.agg (kc y).toArray), FP.eq (.slice (some ⟨b1, off1, none⟩) l.length c1), FP.eq (.int .i64 (i : Int)), FP.eq (.pointer (some ⟨b1, off1 + i * 33, none⟩)), FP.eq (.agg (kc x).toArray), FP.eq (.bool (decide (y = x))), FP.eq (.bool (decide (y = x)))] ?_ ?_
                · refine allFrom_cons ?_ ?_
                  · intro a_ w_ hk_
                    have h7 : a_.eval (.tmp 7) = .bool false := hk_.old 7 (by kernel_rfl)
                    have hx_ := hk_.ext
                    clear hk_
                    refine flow_plain rfl ?_
                    exact gives_move rfl ⟨Below.refl _ _, h7⟩
                  refine allFrom_cons ?_ ?_
                  · intro a_ w_ hk_
                    have h39 : a_.eval (.tmp 39) = (.bool false) := hk_.got 0 39 _ (by kernel_rfl) rfl rfl
                    have hx_ := hk_.ext
                    clear hk_
                    refine flow_plain rfl ?_
                    exact gives_move rfl ⟨Below.refl _ _, h39⟩
                  refine allFrom_cons ?_ ?_
                  · intro a_ w_ hk_
                    have h0 : a_.eval (.tmp 0) = .slice (some ⟨b1, off1, none⟩) l.length c1 := hk_.old 0 (by kernel_rfl)
                    have hg_ : a_.eval (.tmp 40) = .bool false := hk_.got 1 40 _ (by kernel_rfl) rfl rfl
                    have hy_ := hk_.want 1 _ 40 false rfl rfl hg_
                    have hx_ := hk_.ext
                    clear hk_
                    refine flow_want rfl hy_ ?_
                    exact gives_move rfl ⟨Below.refl _ _, h0⟩
                  refine allFrom_cons ?_ ?_
                  · intro a_ w_ hk_
                    have h9 : a_.eval (.tmp 9) = .int .i64 (k : Int) := hk_.old 9 (by kernel_rfl)
                    have hg_ : a_.eval (.tmp 40) = .bool false := hk_.got 1 40 _ (by kernel_rfl) rfl rfl
                    have hy_ := hk_.want 1 _ 40 false rfl rfl hg_
                    have hx_ := hk_.ext
                    clear hk_
                    refine flow_want rfl hy_ ?_
                    exact gives_move rfl ⟨Below.refl _ _, h9⟩
                  refine allFrom_cons ?_ ?_
                  · intro a_ w_ hk_
                    have h41 : a_.eval (.tmp 41) = (.slice (some ⟨b1, off1, none⟩) l.length c1) := hk_.got 2 41 _ (by kernel_rfl) rfl rfl
                    have h42 : a_.eval (.tmp 42) = (.int .i64 (k : Int)) := hk_.got 3 42 _ (by kernel_rfl) rfl rfl
                    have hg_ : a_.eval (.tmp 40) = .bool false := hk_.got 1 40 _ (by kernel_rfl) rfl rfl
                    have hy_ := hk_.want 1 _ 40 false rfl rfl hg_
                    have hx_ := hk_.ext
                    clear hk_
                    refine flow_want rfl hy_ ?_
                    unfold gives
                    have hc_ : ∀ v, a_.eval (.const v) = v := fun _ => rfl
                    have hn_ : ∀ f, a_.eval (.func f) = .func (.func f) #[] #[] := fun _ => rfl
                    clear hy_ hg_
                    generalize a_.eval = ρ_ at *
                    go_simp
                    exact ⟨Below.refl _ _, rfl⟩
                  refine allFrom_cons ?_ ?_
                  · intro a_ w_ hk_
                    have h43 : a_.eval (.tmp 43) = (.pointer (some ⟨b1, off1 + k * 33, none⟩)) := hk_.got 4 43 _ (by kernel_rfl) rfl rfl
                    have hg_ : a_.eval (.tmp 40) = .bool false := hk_.got 1 40 _ (by kernel_rfl) rfl rfl
                    have hy_ := hk_.want 1 _ 40 false rfl rfl hg_
                    have hx_ := hk_.ext
                    clear hk_
                    refine flow_want rfl hy_ ?_
                    exact gives_loadA rfl h43 (aggKc hy) (HD2.out _ (hbr2.trans (hx_.mono hbr2.size))) ⟨Below.refl _ _, rfl⟩
                  refine allFrom_cons ?_ ?_
                  · intro a_ w_ hk_
                    have h0 : a_.eval (.tmp 0) = .slice (some ⟨b1, off1, none⟩) l.length c1 := hk_.old 0 (by kernel_rfl)
                    have hg_ : a_.eval (.tmp 40) = .bool false := hk_.got 1 40 _ (by kernel_rfl) rfl rfl
                    have hy_ := hk_.want 1 _ 40 false rfl rfl hg_
                    have hx_ := hk_.ext
                    clear hk_
                    refine flow_want rfl hy_ ?_
                    exact gives_move rfl ⟨Below.refl _ _, h0⟩
                  refine allFrom_cons ?_ ?_
                  · intro a_ w_ hk_
                    have h6 : a_.eval (.tmp 6) = .int .i64 (i : Int) := hk_.old 6 (by kernel_rfl)
                    have hg_ : a_.eval (.tmp 40) = .bool false := hk_.got 1 40 _ (by kernel_rfl) rfl rfl
                    have hy_ := hk_.want 1 _ 40 false rfl rfl hg_
                    have hx_ := hk_.ext
                    clear hk_
                    refine flow_want rfl hy_ ?_
                    exact gives_move rfl ⟨Below.refl _ _, h6⟩
                  refine allFrom_cons ?_ ?_
                  · intro a_ w_ hk_
                    have h45 : a_.eval (.tmp 45) = (.slice (some ⟨b1, off1, none⟩) l.length c1) := hk_.got 6 45 _ (by kernel_rfl) rfl rfl
                    have h46 : a_.eval (.tmp 46) = (.int .i64 (i : Int)) := hk_.got 7 46 _ (by kernel_rfl) rfl rfl
                    have hg_ : a_.eval (.tmp 40) = .bool false := hk_.got 1 40 _ (by kernel_rfl) rfl rfl
                    have hy_ := hk_.want 1 _ 40 false rfl rfl hg_
                    have hx_ := hk_.ext
                    clear hk_
                    refine flow_want rfl hy_ ?_
                    unfold gives
                    have hc_ : ∀ v, a_.eval (.const v) = v := fun _ => rfl
                    have hn_ : ∀ f, a_.eval (.func f) = .func (.func f) #[] #[] := fun _ => rfl
                    clear hy_ hg_
                    generalize a_.eval = ρ_ at *
                    go_simp
                    exact ⟨Below.refl _ _, rfl⟩
                  refine allFrom_cons ?_ ?_
                  · intro a_ w_ hk_
                    have h47 : a_.eval (.tmp 47) = (.pointer (some ⟨b1, off1 + i * 33, none⟩)) := hk_.got 8 47 _ (by kernel_rfl) rfl rfl
                    have hg_ : a_.eval (.tmp 40) = .bool false := hk_.got 1 40 _ (by kernel_rfl) rfl rfl
                    have hy_ := hk_.want 1 _ 40 false rfl rfl hg_
                    have hx_ := hk_.ext
                    clear hk_
                    refine flow_want rfl hy_ ?_
                    exact gives_loadA rfl h47 (aggKc hx) (HD1.out _ (hbr2.trans (hx_.mono hbr2.size))) ⟨Below.refl _ _, rfl⟩
                  refine allFrom_cons ?_ ?_
                  · intro a_ w_ hk_
                    have h44 : a_.eval (.tmp 44) = (.agg (kc y).toArray) := hk_.got 5 44 _ (by kernel_rfl) rfl rfl
                    have h48 : a_.eval (.tmp 48) = (.agg (kc x).toArray) := hk_.got 9 48 _ (by kernel_rfl) rfl rfl
                    have hg_ : a_.eval (.tmp 40) = .bool false := hk_.got 1 40 _ (by kernel_rfl) rfl rfl
                    have hy_ := hk_.want 1 _ 40 false rfl rfl hg_
                    have hx_ := hk_.ext
                    clear hk_
                    refine flow_want rfl hy_ ?_
                    exact gives_eqA guardK rfl h44 h48 (eqK hy hx w_) ⟨Below.refl _ _, rfl⟩
                  refine allFrom_cons ?_ ?_
                  · intro a_ w_ hk_
                    have h40 : a_.eval (.tmp 40) = (.bool false) := hk_.got 1 40 _ (by kernel_rfl) rfl rfl
                    have h49 : a_.eval (.tmp 49) = (.bool (decide (y = x))) := hk_.got 10 49 _ (by kernel_rfl) rfl rfl
                    have hx_ := hk_.ext
                    clear hk_
                    refine flow_plain rfl ?_
                    exact gives_pick rfl h40 ⟨Below.refl _ _, h49⟩
                  exact allFrom_nil
                intro f_ w_ hx_ hf_
                have h39 : f_ 39 = (.bool false) := hf_ 0 39 _ (by decide) rfl rfl
                have h40 : f_ 40 = (.bool false) := hf_ 1 40 _ (by decide) rfl rfl
                have h41 : f_ 41 = (.slice (some ⟨b1, off1, none⟩) l.length c1) := hf_ 2 41 _ (by decide) rfl rfl
                have h42 : f_ 42 = (.int .i64 (k : Int)) := hf_ 3 42 _ (by decide) rfl rfl
                have h43 : f_ 43 = (.pointer (some ⟨b1, off1 + k * 33, none⟩)) := hf_ 4 43 _ (by decide) rfl rfl
                have h44 : f_ 44 = (.agg (kc y).toArray) := hf_ 5 44 _ (by decide) rfl rfl
                have h45 : f_ 45 = (.slice (some ⟨b1, off1, none⟩) l.length c1) := hf_ 6 45 _ (by decide) rfl rfl
                have h46 : f_ 46 = (.int .i64 (i : Int)) := hf_ 7 46 _ (by decide) rfl rfl
                have h47 : f_ 47 = (.pointer (some ⟨b1, off1 + i * 33, none⟩)) := hf_ 8 47 _ (by decide) rfl rfl
                have h48 : f_ 48 = (.agg (kc x).toArray) := hf_ 9 48 _ (by decide) rfl rfl
                have h49 : f_ 49 = (.bool (decide (y = x))) := hf_ 10 49 _ (by decide) rfl rfl
                have h50 : f_ 50 = (.bool (decide (y = x))) := hf_ 11 50 _ (by decide) rfl rfl
                simp only [mix, List.drop_succ_cons, List.drop_zero, h39, h40, h41, h42, h43, h44, h45, h46, h47, h48, h49, h50]
                clear h39 h40 h41 h42 h43 h44 h45 h46 h47 h48 h49 h50
                clear hf_
                go_wp2
                go_roundw
                case rel => exact ⟨k + 1, by omega, by go_num, by rw [HIN.out], hbi.trans (hx_.mono hbi.size)⟩
                case measure => simp [intOf]; omega
            · have hbw3 := hbi
              obtain rfl : k = i := by omega
              clear hk hlk
              have hown3 := own_keep hown hbw3
              by_cases hin : x ∈ other ++ l.take k
              · rw [decide_eq_true hin]
                rw [if_pos hin, List.append_nil] at HNS
                go_wp2
                go_roundw
                case rel => exact ⟨k + 1, by omega, by go_num, by rw [HNS.out]; exact hown3, hbr2⟩
                case measure => simp [intOf]; omega
              · rw [decide_eq_false hin]
                rw [if_neg hin] at HNS
                have hdx := HD1.out _ hbr2
                have hv5 : ∀ g5, wr.heap.size ≤ g5 → (Value.slice A9 (nots (l.take k) other).length c9).ownBlock ≠ some g5 := fun g5 hg e => Nat.lt_irrefl _ (Nat.lt_of_lt_of_le (hown3.lt _ e).2 hg)
                go_wp2_with (first
                  | (refine wpList_load_agg rfl _ _ rfl _ _ rfl (kc x) (aggKc hx) hdx ?_)
                  | (refine sl1K rfl _ rfl hx rfl ?_; intro g7 w7 hg7 hblk7 hb7; have hr7 := rd_blk hblk7; have hown7 := own_keep hown3 hb7; have hb07 := bx_trans hbr2 hb7)
                  | (at_builtin; refine wpList_app rfl _ _ _ rfl (Value.slice A9 (nots (l.take k) other).length c9) rfl _ _ _ rfl elK hown7 hr7 (by rw [kc_len hx]) (kc_one x) (by unfold maxLen; omega) (by omega) hb07.size ?_; intro v8 w8 hown8 hgr8 hv8; have hb08 := own_below hb07 hown7 hgr8))
                go_roundw
                case rel => exact ⟨k + 1, by omega, by go_num, by rw [HNS.out, List.length_append, List.map_append, List.flatten_append]; simpa using hown8, hb08⟩
                case measure => simp [intOf]; omega
    · obtain rfl : i = l.length := by omega
      rw [List.take_length] at *
      go_wp2
      go_ret
      exact ⟨.slice A9 (nots l other).length c9, rfl, hown, hbr⟩
set_option maxRecDepth 10000 in
set_option maxHeartbeats 1000000 in
theorem NotH_any (w : World) {A1 A2 : Option Addr} {c1 c2 : Nat} {l other : List (List UInt8)} (hok1 : ∀ k ∈ l, hOk k) (hok2 : ∀ k ∈ other, hOk k) (hr1 : Rd w w.heap.size A1 (l.map hc).flatten) (hr2 : Rd w w.heap.size A2 (other.map hc).flatten) (hl1 : l.length ≤ 100000) (hl2 : other.length ≤ 100000) :
    Calls Try.prog 18 #[.slice A1 l.length c1, .slice A2 other.length c2] w fun e w' => ∃ v, e = .returned v ∧ w'.ownsRow w.heap.size 52 32 v (nots l other).length ((nots l other).map hc).flatten ∧ Below w.heap.size w w' := by
  have HR1 := hid hr1
  have HR2 := hid hr2
  have HO1 := hid hok1
  have HO2 := hid hok2
  clear hr1 hr2 hok1 hok2
  go_enter Try.func18, Try.ntmps18
  go_wp2
  go_loopw [5, 6] (fun v j wr => ∃ (i : Nat), i ≤ l.length ∧ j = .int .i64 i ∧ wr.ownsRow w.heap.size 52 32 v (nots (l.take i) other).length ((nots (l.take i) other).map hc).flatten ∧ Below w.heap.size w wr) (fun _ j _ => l.length - (intOf j).toNat)
  case atStart => exact ⟨0, by omega, rfl, World.ownsRow_nil _ _ _ _, Below.refl _ _⟩
  case round =>
    obtain ⟨i, hi, rfl, hown, hbr⟩ := hrel
    rename World => wo
    obtain ⟨A9, c9, rfl, _, _, _⟩ := own_form hown
    by_cases hlt : i < l.length
    · obtain ⟨b1, off1, rfl, hbb1, hd1⟩ := rd_item (i := i) HR1.out (mapLenH HO1.out) (by decide) (by rw [List.length_map]; exact hlt)
      rw [List.getElem_map] at hd1
      have hx := HO1.out _ (List.getElem_mem hlt)
      have htk : l.take (i + 1) = l.take i ++ [l[i]] := List.take_succ_eq_append_getElem hlt
      have hns := nots_snoc (l.take i) other l[i]
      have hnl : (nots (l.take i) other).length ≤ 100000 := by have := nots_len other (l.take i) []; rw [List.length_take] at this; show (notsL other [] (l.take i)).length ≤ _; omega
      rw [← htk] at hns
      have HNS := hid hns
      clear htk hns
      generalize l[i] = x at *
      have hdr1 : ∀ w_, Below w.heap.size w w_ → ∀ j v, (hc x)[j]? = some v → w_.cell? ⟨b1, off1 + i * 32 + j, none⟩ = some v := fun w_ hb j v hv => (hb.cell (p := ⟨b1, off1 + i * 32 + j, none⟩) hbb1).trans (hd1 j v hv)
      have HD1 := hid hdr1
      clear hdr1 hd1
      go_wp2
      go_loopw [7, 8] (fun v j wr2 => ∃ (k : Nat), k ≤ other.length ∧ j = .int .i64 k ∧ v = .bool (decide (x ∈ other.take k)) ∧ Below wo.heap.size wo wr2) (fun _ j _ => other.length - (intOf j).toNat)
      case atStart => exact ⟨0, by omega, rfl, by simp, Below.refl _ _⟩
      case round =>
        obtain ⟨k, hk, rfl, rfl, hbi⟩ := hrel
        have hbr2 := bx_trans hbr hbi
        by_cases hlk : k < other.length
        · have hlk2 : k < other.length := by omega
          obtain ⟨y, hyd⟩ : ∃ y, y = other[k] := ⟨_, rfl⟩
          have hy : hOk y := by rw [hyd]; exact HO2.out _ (List.getElem_mem hlk2)
          have htk : other.take (k + 1) = other.take k ++ [y] := by rw [hyd]; exact List.take_succ_eq_append_getElem hlk2
          have hmem : (x ∈ other.take (k + 1)) = (x ∈ other.take k ∨ x = y) := by rw [htk]; simp [List.mem_append]
          have HM := hid hmem
          clear htk hmem
          obtain ⟨by1, oy1, hA2, hbby, hdy⟩ := rd_item (i := k) HR2.out (mapLenH HO2.out) (by decide) (by rw [List.length_map]; exact hlk2)
          subst hA2
          rw [List.getElem_map, ← hyd] at hdy
          clear hyd
          have hdr2 : ∀ w_, Below w.heap.size w w_ → ∀ j v, (hc y)[j]? = some v → w_.cell? ⟨by1, oy1 + k * 32 + j, none⟩ = some v := fun w_ hb j v hv => (hb.cell (p := ⟨by1, oy1 + k * 32 + j, none⟩) hbby).trans (hdy j v hv)
          have HD2 := hid hdr2
          clear hdr2 hdy
          by_cases hin : x ∈ other.take k
          · rw [decide_eq_true hin]
            have hin2 := decide_eq_true (HM.out.symm ▸ Or.inl hin : x ∈ other.take (k + 1))
            have HIN := hid hin2
            clear hin2
            go_wp2
            refine wp_flow (by kernel_rfl) [0, 1, 3, 3, 15, 31, 3, 3, 195, 451, 1023, 2047, 4095] 12 [false, false, false, false, false, false, false, false, false, false, false, false, false, false, false, false, false, false, false, false, false, false, true, true, true, true, true, true, true, true, true, true, true, true] (by kernel_rfl) (by decide) (by kernel_rfl) [FP.eq (.bool true), FP.eq (.bool true), FP.any, FP.any, FP.any, FP.any, FP.any, FP.any, FP.any, FP.any, FP.any, FP.eq (.bool true)] ?_ ?_
            · refine allFrom_cons ?_ ?_
              · intro a_ w_ hk_
                have h7 : a_.eval (.tmp 7) = .bool true := hk_.old 7 (by kernel_rfl)
                have hx_ := hk_.ext
                clear hk_
                refine flow_plain rfl ?_
                exact gives_move rfl ⟨Below.refl _ _, h7⟩
              refine allFrom_cons ?_ ?_
              · intro a_ w_ hk_
                have h22 : a_.eval (.tmp 22) = (.bool true) := hk_.got 0 22 _ (by kernel_rfl) rfl rfl
                have hx_ := hk_.ext
                clear hk_
                refine flow_plain rfl ?_
                exact gives_move rfl ⟨Below.refl _ _, h22⟩
              refine allFrom_cons ?_ ?_
              · intro a_ w_ hk_
                have h1 : a_.eval (.tmp 1) = .slice (some ⟨by1, oy1, none⟩) other.length c2 := hk_.old 1 (by kernel_rfl)
                have hg_ : a_.eval (.tmp 23) = .bool true := hk_.got 1 23 _ (by kernel_rfl) rfl rfl
                have hy_ := hk_.want 1 _ 23 true rfl rfl hg_
                have hx_ := hk_.ext
                clear hk_
                exact flow_skip rfl hy_ (by decide) trivial
              refine allFrom_cons ?_ ?_
              · intro a_ w_ hk_
                have h8 : a_.eval (.tmp 8) = .int .i64 (k : Int) := hk_.old 8 (by kernel_rfl)
                have hg_ : a_.eval (.tmp 23) = .bool true := hk_.got 1 23 _ (by kernel_rfl) rfl rfl
                have hy_ := hk_.want 1 _ 23 true rfl rfl hg_
                have hx_ := hk_.ext
                clear hk_
                exact flow_skip rfl hy_ (by decide) trivial
              refine allFrom_cons ?_ ?_
              · intro a_ w_ hk_
                have hg_ : a_.eval (.tmp 23) = .bool true := hk_.got 1 23 _ (by kernel_rfl) rfl rfl
                have hy_ := hk_.want 1 _ 23 true rfl rfl hg_
                have hx_ := hk_.ext
                clear hk_
                exact flow_skip rfl hy_ (by decide) trivial
              refine allFrom_cons ?_ ?_
              · intro a_ w_ hk_
                have hg_ : a_.eval (.tmp 23) = .bool true := hk_.got 1 23 _ (by kernel_rfl) rfl rfl
                have hy_ := hk_.want 1 _ 23 true rfl rfl hg_
                have hx_ := hk_.ext
                clear hk_
                exact flow_skip rfl hy_ (by decide) trivial
              refine allFrom_cons ?_ ?_
              · intro a_ w_ hk_
                have h0 : a_.eval (.tmp 0) = .slice (some ⟨b1, off1, none⟩) l.length c1 := hk_.old 0 (by kernel_rfl)
                have hg_ : a_.eval (.tmp 23) = .bool true := hk_.got 1 23 _ (by kernel_rfl) rfl rfl
                have hy_ := hk_.want 1 _ 23 true rfl rfl hg_
                have hx_ := hk_.ext
                clear hk_
                exact flow_skip rfl hy_ (by decide) trivial
              refine allFrom_cons ?_ ?_
              · intro a_ w_ hk_
                have h6 : a_.eval (.tmp 6) = .int .i64 (i : Int) := hk_.old 6 (by kernel_rfl)
                have hg_ : a_.eval (.tmp 23) = .bool true := hk_.got 1 23 _ (by kernel_rfl) rfl rfl
                have hy_ := hk_.want 1 _ 23 true rfl rfl hg_
                have hx_ := hk_.ext
                clear hk_
                exact flow_skip rfl hy_ (by decide) trivial
              refine allFrom_cons ?_ ?_
              · intro a_ w_ hk_
                have hg_ : a_.eval (.tmp 23) = .bool true := hk_.got 1 23 _ (by kernel_rfl) rfl rfl
                have hy_ := hk_.want 1 _ 23 true rfl rfl hg_
                have hx_ := hk_.ext
                clear hk_
                exact flow_skip rfl hy_ (by decide) trivial
              refine allFrom_cons ?_ ?_
              · intro a_ w_ hk_
                have hg_ : a_.eval (.tmp 23) = .bool true := hk_.got 1 23 _ (by kernel_rfl) rfl rfl
                have hy_ := hk_.want 1 _ 23 true rfl rfl hg_
                have hx_ := hk_.ext
                clear hk_
                exact flow_skip rfl hy_ (by decide) trivial
              refine allFrom_cons ?_ ?_
              · intro a_ w_ hk_
                have hg_ : a_.eval (.tmp 23) = .bool true := hk_.got 1 23 _ (by kernel_rfl) rfl rfl
                have hy_ := hk_.want 1 _ 23 true rfl rfl hg_
                have hx_ := hk_.ext
                clear hk_
                exact flow_skip rfl hy_ (by decide) trivial
              refine allFrom_cons ?_ ?_
              · intro a_ w_ hk_
                have h23 : a_.eval (.tmp 23) = (.bool true) := hk_.got 1 23 _ (by kernel_rfl) rfl rfl
                have hx_ := hk_.ext
                clear hk_
                refine flow_plain rfl ?_
                exact gives_pick rfl h23 ⟨Below.refl _ _, rfl⟩
              exact allFrom_nil
            intro f_ w_ hx_ hf_
            have h22 : f_ 22 = (.bool true) := hf_ 0 22 _ (by decide) rfl rfl
            have h23 : f_ 23 = (.bool true) := hf_ 1 23 _ (by decide) rfl rfl
            have h33 : f_ 33 = (.bool true) := hf_ 11 33 _ (by decide) rfl rfl
            simp only [mix, List.drop_succ_cons, List.drop_zero, h22, h23, h33]
            clear h22 h23 h33
            clear hf_
            go_wp2
            go_roundw
            case rel => exact ⟨k + 1, by omega, by go_num, by rw [HIN.out], hbi.trans (hx_.mono hbi.size)⟩
            case measure => simp [intOf]; omega
          · rw [decide_eq_false hin]
            have hin2 : decide (x ∈ other.take (k + 1)) = decide (y = x) := by rw [decide_eq_decide, HM.out]; exact ⟨fun h => h.elim (fun h => absurd h hin) (fun h => h.symm), fun h => Or.inr h.symm⟩
            have HIN := hid hin2
            clear hin2
            go_wp2
            refine wp_flow (by kernel_rfl) [0, 1, 3, 3, 15, 31, 3, 3, 195, 451, 1023, 2047, 4095] 12 [false, false, false, false, false, false, false, false, false, false, false, false, false, false, false, false, false, false, false, false, false, false, true, true, true, true, true, true, true, true, true, true, true, true] (by kernel_rfl) (by decide) (by kernel_rfl) [FP.eq (.bool false), FP.eq (.bool false), FP.eq (.slice (some ⟨by1, oy1, none⟩) other.length c2), FP.eq (.int .i64 (k : Int)), FP.eq (.pointer (some ⟨by1, oy1 + k * 32, none⟩)), FP.eq (.agg (hc y).toArray), FP.eq (.slice (some ⟨b1, off1, none⟩) l.length c1), FP.eq (.int .i64 (i : Int)), FP.eq (.pointer (some ⟨b1, off1 + i * 32, none⟩)), FP.eq (.agg (hc x).toArray), FP.eq (.bool (decide (y = x))), FP.eq (.bool (decide (y = x)))] ?_ ?_
            · refine allFrom_cons ?_ ?_
              · intro a_ w_ hk_
                have h7 : a_.eval (.tmp 7) = .bool false := hk_.old 7 (by kernel_rfl)
                have hx_ := hk_.ext
                clear hk_
                refine flow_plain rfl ?_
                exact gives_move rfl ⟨Below.refl _ _, h7⟩
              refine allFrom_cons ?_ ?_
              · intro a_ w_ hk_
                have h22 : a_.eval (.tmp 22) = (.bool false) := hk_.got 0 22 _ (by kernel_rfl) rfl rfl
                have hx_ := hk_.ext
                clear hk_
                refine flow_plain rfl ?_
                exact gives_move rfl ⟨Below.refl _ _, h22⟩
              refine allFrom_cons ?_ ?_
              · intro a_ w_ hk_
                have h1 : a_.eval (.tmp 1) = .slice (some ⟨by1, oy1, none⟩) other.length c2 := hk_.old 1 (by kernel_rfl)
                have hg_ : a_.eval (.tmp 23) = .bool false := hk_.got 1 23 _ (by kernel_rfl) rfl rfl
                have hy_ := hk_.want 1 _ 23 false rfl rfl hg_
                have hx_ := hk_.ext
                clear hk_
                refine flow_want rfl hy_ ?_
                exact gives_move rfl ⟨Below.refl _ _, h1⟩
              refine allFrom_cons ?_ ?_
              · intro a_ w_ hk_
                have h8 : a_.eval (.tmp 8) = .int .i64 (k : Int) := hk_.old 8 (by kernel_rfl)
                have hg_ : a_.eval (.tmp 23) = .bool false := hk_.got 1 23 _ (by kernel_rfl) rfl rfl
                have hy_ := hk_.want 1 _ 23 false rfl rfl hg_
                have hx_ := hk_.ext
                clear hk_
                refine flow_want rfl hy_ ?_
                exact gives_move rfl ⟨Below.refl _ _, h8⟩
              refine allFrom_cons ?_ ?_
              · intro a_ w_ hk_
                have h24 : a_.eval (.tmp 24) = (.slice (some ⟨by1, oy1, none⟩) other.length c2) := hk_.got 2 24 _ (by kernel_rfl) rfl rfl
                have h25 : a_.eval (.tmp 25) = (.int .i64 (k : Int)) := hk_.got 3 25 _ (by kernel_rfl) rfl rfl
                have hg_ : a_.eval (.tmp 23) = .bool false := hk_.got 1 23 _ (by kernel_rfl) rfl rfl
                have hy_ := hk_.want 1 _ 23 false rfl rfl hg_
                have hx_ := hk_.ext
                clear hk_
                refine flow_want rfl hy_ ?_
                unfold gives
                have hc_ : ∀ v, a_.eval (.const v) = v := fun _ => rfl
                have hn_ : ∀ f, a_.eval (.func f) = .func (.func f) #[] #[] := fun _ => rfl
                clear hy_ hg_
                generalize a_.eval = ρ_ at *
                go_simp
                exact ⟨Below.refl _ _, rfl⟩
              refine allFrom_cons ?_ ?_
              · intro a_ w_ hk_
                have h26 : a_.eval (.tmp 26) = (.pointer (some ⟨by1, oy1 + k * 32, none⟩)) := hk_.got 4 26 _ (by kernel_rfl) rfl rfl
                have hg_ : a_.eval (.tmp 23) = .bool false := hk_.got 1 23 _ (by kernel_rfl) rfl rfl
                have hy_ := hk_.want 1 _ 23 false rfl rfl hg_
                have hx_ := hk_.ext
                clear hk_
                refine flow_want rfl hy_ ?_
                exact gives_loadA rfl h26 (aggHc hy) (HD2.out _ (hbr2.trans (hx_.mono hbr2.size))) ⟨Below.refl _ _, rfl⟩
              refine allFrom_cons ?_ ?_
              · intro a_ w_ hk_
                have h0 : a_.eval (.tmp 0) = .slice (some ⟨b1, off1, none⟩) l.length c1 := hk_.old 0 (by kernel_rfl)
                have hg_ : a_.eval (.tmp 23) = .bool false := hk_.got 1 23 _ (by kernel_rfl) rfl rfl
                have hy_ := hk_.want 1 _ 23 false rfl rfl hg_
                have hx_ := hk_.ext
                clear hk_
                refine flow_want rfl hy_ ?_
                exact gives_move rfl ⟨Below.refl _ _, h0⟩
              refine allFrom_cons ?_ ?_
              · intro a_ w_ hk_
                have h6 : a_.eval (.tmp 6) = .int .i64 (i : Int) := hk_.old 6 (by kernel_rfl)
                have hg_ : a_.eval (.tmp 23) = .bool false := hk_.got 1 23 _ (by kernel_rfl) rfl rfl
                have hy_ := hk_.want 1 _ 23 false rfl rfl hg_
                have hx_ := hk_.ext
                clear hk_
                refine flow_want rfl hy_ ?_
                exact gives_move rfl ⟨Below.refl _ _, h6⟩
              refine allFrom_cons ?_ ?_
              · intro a_ w_ hk_
                have h28 : a_.eval (.tmp 28) = (.slice (some ⟨b1, off1, none⟩) l.length c1) := hk_.got 6 28 _ (by kernel_rfl) rfl rfl
                have h29 : a_.eval (.tmp 29) = (.int .i64 (i : Int)) := hk_.got 7 29 _ (by kernel_rfl) rfl rfl
                have hg_ : a_.eval (.tmp 23) = .bool false := hk_.got 1 23 _ (by kernel_rfl) rfl rfl
                have hy_ := hk_.want 1 _ 23 false rfl rfl hg_
                have hx_ := hk_.ext
                clear hk_
                refine flow_want rfl hy_ ?_
                unfold gives
                have hc_ : ∀ v, a_.eval (.const v) = v := fun _ => rfl
                have hn_ : ∀ f, a_.eval (.func f) = .func (.func f) #[] #[] := fun _ => rfl
                clear hy_ hg_
                generalize a_.eval = ρ_ at *
                go_simp
                exact ⟨Below.refl _ _, rfl⟩
              refine allFrom_cons ?_ ?_
              · intro a_ w_ hk_
                have h30 : a_.eval (.tmp 30) = (.pointer (some ⟨b1, off1 + i * 32, none⟩)) := hk_.got 8 30 _ (by kernel_rfl) rfl rfl
                have hg_ : a_.eval (.tmp 23) = .bool false := hk_.got 1 23 _ (by kernel_rfl) rfl rfl
                have hy_ := hk_.want 1 _ 23 false rfl rfl hg_
                have hx_ := hk_.ext
                clear hk_
                refine flow_want rfl hy_ ?_
                exact gives_loadA rfl h30 (aggHc hx) (HD1.out _ (hbr2.trans (hx_.mono hbr2.size))) ⟨Below.refl _ _, rfl⟩
              refine allFrom_cons ?_ ?_
              · intro a_ w_ hk_
                have h27 : a_.eval (.tmp 27) = (.agg (hc y).toArray) := hk_.got 5 27 _ (by kernel_rfl) rfl rfl
                have h31 : a_.eval (.tmp 31) = (.agg (hc x).toArray) := hk_.got 9 31 _ (by kernel_rfl) rfl rfl
                have hg_ : a_.eval (.tmp 23) = .bool false := hk_.got 1 23 _ (by kernel_rfl) rfl rfl
                have hy_ := hk_.want 1 _ 23 false rfl rfl hg_
                have hx_ := hk_.ext
                clear hk_
                refine flow_want rfl hy_ ?_
                exact gives_eqA guardH rfl h27 h31 (eqH hy hx w_) ⟨Below.refl _ _, rfl⟩
              refine allFrom_cons ?_ ?_
              · intro a_ w_ hk_
                have h23 : a_.eval (.tmp 23) = (.bool false) := hk_.got 1 23 _ (by kernel_rfl) rfl rfl
                have h32 : a_.eval (.tmp 32) = (.bool (decide (y = x))) := hk_.got 10 32 _ (by kernel_rfl) rfl rfl
                have hx_ := hk_.ext
                clear hk_
                refine flow_plain rfl ?_
                exact gives_pick rfl h23 ⟨Below.refl _ _, h32⟩
              exact allFrom_nil
            intro f_ w_ hx_ hf_
            have h22 : f_ 22 = (.bool false) := hf_ 0 22 _ (by decide) rfl rfl
            have h23 : f_ 23 = (.bool false) := hf_ 1 23 _ (by decide) rfl rfl
            have h24 : f_ 24 = (.slice (some ⟨by1, oy1, none⟩) other.length c2) := hf_ 2 24 _ (by decide) rfl rfl
            have h25 : f_ 25 = (.int .i64 (k : Int)) := hf_ 3 25 _ (by decide) rfl rfl
            have h26 : f_ 26 = (.pointer (some ⟨by1, oy1 + k * 32, none⟩)) := hf_ 4 26 _ (by decide) rfl rfl
            have h27 : f_ 27 = (.agg (hc y).toArray) := hf_ 5 27 _ (by decide) rfl rfl
            have h28 : f_ 28 = (.slice (some ⟨b1, off1, none⟩) l.length c1) := hf_ 6 28 _ (by decide) rfl rfl
            have h29 : f_ 29 = (.int .i64 (i : Int)) := hf_ 7 29 _ (by decide) rfl rfl
            have h30 : f_ 30 = (.pointer (some ⟨b1, off1 + i * 32, none⟩)) := hf_ 8 30 _ (by decide) rfl rfl
            have h31 : f_ 31 = (.agg (hc x).toArray) := hf_ 9 31 _ (by decide) rfl rfl
            have h32 : f_ 32 = (.bool (decide (y = x))) := hf_ 10 32 _ (by decide) rfl rfl
            have h33 : f_ 33 = (.bool (decide (y = x))) := hf_ 11 33 _ (by decide) rfl rfl
            simp only [mix, List.drop_succ_cons, List.drop_zero, h22, h23, h24, h25, h26, h27, h28, h29, h30, h31, h32, h33]
            clear h22 h23 h24 h25 h26 h27 h28 h29 h30 h31 h32 h33
            clear hf_
            go_wp2
            go_roundw
            case rel => exact ⟨k + 1, by omega, by go_num, by rw [HIN.out], hbi.trans (hx_.mono hbi.size)⟩
            case measure => simp [intOf]; omega
        · have hbw2 := hbi
          obtain rfl : k = other.length := by omega
          rw [List.take_length]
          clear hk hlk
          go_wp2
          go_loopw [7, 9] (fun v j wr2 => ∃ (k : Nat), k ≤ i ∧ j = .int .i64 k ∧ v = .bool (decide (x ∈ other ++ l.take k)) ∧ Below wo.heap.size wo wr2) (fun _ j _ => i - (intOf j).toNat)
          case atStart => exact ⟨0, by omega, rfl, by rw [List.take_zero, List.append_nil], hbw2⟩
          case round =>
            obtain ⟨k, hk, rfl, rfl, hbi⟩ := hrel
            have hbr2 := bx_trans hbr hbi
            by_cases hlk : k < i
            · have hlk2 : k < l.length := by omega
              obtain ⟨y, hyd⟩ : ∃ y, y = l[k] := ⟨_, rfl⟩
              have hy : hOk y := by rw [hyd]; exact HO1.out _ (List.getElem_mem hlk2)
              have htk : l.take (k + 1) = l.take k ++ [y] := by rw [hyd]; exact List.take_succ_eq_append_getElem hlk2
              have hmem : (x ∈ other ++ l.take (k + 1)) = (x ∈ other ++ l.take k ∨ x = y) := by rw [htk]; simp [List.mem_append, or_assoc]
              have HM := hid hmem
              clear htk hmem
              obtain ⟨by1, oy1, hA2, hbby, hdy⟩ := rd_item (i := k) HR1.out (mapLenH HO1.out) (by decide) (by rw [List.length_map]; exact hlk2)
              injection hA2 with hA2
              injection hA2 with hA2 hA3
              subst hA2 hA3
              rw [List.getElem_map, ← hyd] at hdy
              clear hyd
              have hdr2 : ∀ w_, Below w.heap.size w w_ → ∀ j v, (hc y)[j]? = some v → w_.cell? ⟨b1, off1 + k * 32 + j, none⟩ = some v := fun w_ hb j v hv => (hb.cell (p := ⟨b1, off1 + k * 32 + j, none⟩) hbby).trans (hdy j v hv)
              have HD2 := hid hdr2
              clear hdr2 hdy
              by_cases hin : x ∈ other ++ l.take k
              · rw [decide_eq_true hin]
                have hin2 := decide_eq_true (HM.out.symm ▸ Or.inl hin : x ∈ other ++ l.take (k + 1))
                have HIN := hid hin2
                clear hin2
                go_wp2
                refine wp_flow (by kernel_rfl) [0, 1, 3, 3, 15, 31, 3, 3, 195, 451, 1023, 2047, 4095] 12 [false, false, false, false, false, false, false, false, false, false, false, false, false, false, false, false, false, false, false, false, false, false, false, false, false, false, false, false, false, false, false, false, false, false, false, false, false, false, false, true, true, true, true, true, true, true, true, true, true, true, true] (by kernel_rfl) (by decide) (by kernel_rfl) [FP.eq (.bool true), FP.eq (.bool true), FP.any, FP.any, FP.any, FP.any, FP.any, FP.any, FP.any, FP.any, FP.any, FP.eq (.bool true)] ?_ ?_
                · refine allFrom_cons ?_ ?_
                  · intro a_ w_ hk_
                    have h7 : a_.eval (.tmp 7) = .bool true := hk_.old 7 (by kernel_rfl)
                    have hx_ := hk_.ext
                    clear hk_
                    refine flow_plain rfl ?_
                    exact gives_move rfl ⟨Below.refl _ _, h7⟩
                  refine allFrom_cons ?_ ?_
                  · intro a_ w_ hk_
                    have h39 : a_.eval (.tmp 39) = (.bool true) := hk_.got 0 39 _ (by kernel_rfl) rfl rfl
                    have hx_ := hk_.ext
                    clear hk_
                    refine flow_plain rfl ?_
                    exact gives_move rfl ⟨Below.refl _ _, h39⟩
                  refine allFrom_cons ?_ ?_
                  · intro a_ w_ hk_
                    have h0 : a_.eval (.tmp 0) = .slice (some ⟨b1, off1, none⟩) l.length c1 := hk_.old 0 (by kernel_rfl)
                    have hg_ : a_.eval (.tmp 40) = .bool true := hk_.got 1 40 _ (by kernel_rfl) rfl rfl
                    have hy_ := hk_.want 1 _ 40 true rfl rfl hg_
                    have hx_ := hk_.ext
                    clear hk_
                    exact flow_skip rfl hy_ (by decide) trivial
                  refine allFrom_cons ?_ ?_
                  · intro a_ w_ hk_
                    have h9 : a_.eval (.tmp 9) = .int .i64 (k : Int) := hk_.old 9 (by kernel_rfl)
                    have hg_ : a_.eval (.tmp 40) = .bool true := hk_.got 1 40 _ (by kernel_rfl) rfl rfl
                    have hy_ := hk_.want 1 _ 40 true rfl rfl hg_
                    have hx_ := hk_.ext
                    clear hk_
                    exact flow_skip rfl hy_ (by decide) trivial
                  refine allFrom_cons ?_ ?_
                  · intro a_ w_ hk_
                    have hg_ : a_.eval (.tmp 40) = .bool true := hk_.got 1 40 _ (by kernel_rfl) rfl rfl
                    have hy_ := hk_.want 1 _ 40 true rfl rfl hg_
                    have hx_ := hk_.ext
                    clear hk_
                    exact flow_skip rfl hy_ (by decide) trivial
                  refine allFrom_cons ?_ ?_
                  · intro a_ w_ hk_
                    have hg_ : a_.eval (.tmp 40) = .bool true := hk_.got 1 40 _ (by kernel_rfl) rfl rfl
                    have hy_ := hk_.want 1 _ 40 true rfl rfl hg_
                    have hx_ := hk_.ext
                    clear hk_
                    exact flow_skip rfl hy_ (by decide) trivial
                  refine allFrom_cons ?_ ?_
                  · intro a_ w_ hk_
                    have h0 : a_.eval (.tmp 0) = .slice (some ⟨b1, off1, none⟩) l.length c1 := hk_.old 0 (by kernel_rfl)
                    have hg_ : a_.eval (.tmp 40) = .bool true := hk_.got 1 40 _ (by kernel_rfl) rfl rfl
                    have hy_ := hk_.want 1 _ 40 true rfl rfl hg_
                    have hx_ := hk_.ext
                    clear hk_
                    exact flow_skip rfl hy_ (by decide) trivial
                  refine allFrom_cons ?_ ?_
                  · intro a_ w_ hk_
                    have h6 : a_.eval (.tmp 6) = .int .i64 (i : Int) := hk_.old 6 (by kernel_rfl)
                    have hg_ : a_.eval (.tmp 40) = .bool true := hk_.got 1 40 _ (by kernel_rfl) rfl rfl
                    have hy_ := hk_.want 1 _ 40 true rfl rfl hg_
                    have hx_ := hk_.ext
                    clear hk_
                    exact flow_skip rfl hy_ (by decide) trivial
                  refine allFrom_cons ?_ ?_
                  · intro a_ w_ hk_
                    have hg_ : a_.eval (.tmp 40) = .bool true := hk_.got 1 40 _ (by kernel_rfl) rfl rfl
                    have hy_ := hk_.want 1 _ 40 true rfl rfl hg_
                    have hx_ := hk_.ext
                    clear hk_
                    exact flow_skip rfl hy_ (by decide) trivial
                  refine allFrom_cons ?_ ?_
                  · intro a_ w_ hk_
                    have hg_ : a_.eval (.tmp 40) = .bool true := hk_.got 1 40 _ (by kernel_rfl) rfl rfl
                    have hy_ := hk_.want 1 _ 40 true rfl rfl hg_
                    have hx_ := hk_.ext
                    clear hk_
                    exact flow_skip rfl hy_ (by decide) trivial
                  refine allFrom_cons ?_ ?_
                  · intro a_ w_ hk_
                    have hg_ : a_.eval (.tmp 40) = .bool true := hk_.got 1 40 _ (by kernel_rfl) rfl rfl
                    have hy_ := hk_.want 1 _ 40 true rfl rfl hg_
                    have hx_ := hk_.ext
                    clear hk_
                    exact flow_skip rfl hy_ (by decide) trivial
                  refine allFrom_cons ?_ ?_
                  · intro a_ w_ hk_
                    have h40 : a_.eval (.tmp 40) = (.bool true) := hk_.got 1 40 _ (by kernel_rfl) rfl rfl
                    have hx_ := hk_.ext
                    clear hk_
                    refine flow_plain rfl ?_
                    exact gives_pick rfl h40 ⟨Below.refl _ _, rfl⟩
                  exact allFrom_nil
                intro f_ w_ hx_ hf_
                have h39 : f_ 39 = (.bool true) := hf_ 0 39 _ (by decide) rfl rfl
                have h40 : f_ 40 = (.bool true) := hf_ 1 40 _ (by decide) rfl rfl
                have h50 : f_ 50 = (.bool true) := hf_ 11 50 _ (by decide) rfl rfl
                simp only [mix, List.drop_succ_cons, List.drop_zero, h39, h40, h50]
                clear h39 h40 h50
                clear hf_
                go_wp2
                go_roundw
                case rel => exact ⟨k + 1, by omega, by go_num, by rw [HIN.out], hbi.trans (hx_.mono hbi.size)⟩
                case measure => simp [intOf]; omega
              · rw [decide_eq_false hin]
                have hin2 : decide (x ∈ other ++ l.take (k + 1)) = decide (y = x) := by rw [decide_eq_decide, HM.out]; exact ⟨fun h => h.elim (fun h => absurd h hin) (fun h => h.symm), fun h => Or.inr h.symm⟩
                have HIN := hid hin2
                clear hin2
                go_wp2
                refine wp_flow (by kernel_rfl) [0, 1, 3, 3, 15, 31, 3, 3, 195, 451, 1023, 2047, 4095] 12 [false, false, false, false, false, false, false, false, false, false, false, false, false, false, false, false, false, false, false, false, false, false, false, false, false, false, false, false, false, false, false, false, false, false, false, false, false, false, false, true, true, true, true, true, true, true, true, true, true, true, true] (by kernel_rfl) (by decide) (by kernel_rfl) [FP.eq (.bool false), FP.eq (.bool false), FP.eq (.slice (some ⟨b1, off1, none⟩) l.length c1), FP.eq (.int .i64 (k : Int)), FP.eq (.pointer (some ⟨b1, off1 + k * 32, none⟩)), FP.eq (.agg (hc y).toArray), FP.eq (.slice (some ⟨b1, off1, none⟩) l.length c1), FP.eq (.int .i64 (i : Int)), FP.eq (.pointer (some ⟨b1, off1 + i * 32, none⟩)), FP.eq (.agg (hc x).toArray), FP.eq (.bool (decide (y = x))), FP.eq (.bool (decide (y = x)))] ?_ ?_
                · refine allFrom_cons ?_ ?_
                  · intro a_ w_ hk_
                    have h7 : a_.eval (.tmp 7) = .bool false := hk_.old 7 (by kernel_rfl)
                    have hx_ := hk_.ext
                    clear hk_
                    refine flow_plain rfl ?_
                    exact gives_move rfl ⟨Below.refl _ _, h7⟩
                  refine allFrom_cons ?_ ?_
                  · intro a_ w_ hk_
                    have h39 : a_.eval (.tmp 39) = (.bool false) := hk_.got 0 39 _ (by kernel_rfl) rfl rfl
                    have hx_ := hk_.ext
                    clear hk_
                    refine flow_plain rfl ?_
                    exact gives_move rfl ⟨Below.refl _ _, h39⟩
                  refine allFrom_cons ?_ ?_
                  · intro a_ w_ hk_
                    have h0 : a_.eval (.tmp 0) = .slice (some ⟨b1, off1, none⟩) l.length c1 := hk_.old 0 (by kernel_rfl)
                    have hg_ : a_.eval (.tmp 40) = .bool false := hk_.got 1 40 _ (by kernel_rfl) rfl rfl
                    have hy_ := hk_.want 1 _ 40 false rfl rfl hg_
                    have hx_ := hk_.ext
                    clear hk_
                    refine flow_want rfl hy_ ?_
                    exact gives_move rfl ⟨Below.refl _ _, h0⟩
                  refine allFrom_cons ?_ ?_
                  · intro a_ w_ hk_
                    have h9 : a_.eval (.tmp 9) = .int .i64 (k : Int) := hk_.old 9 (by kernel_rfl)
                    have hg_ : a_.eval (.tmp 40) = .bool false := hk_.got 1 40 _ (by kernel_rfl) rfl rfl
                    have hy_ := hk_.want 1 _ 40 false rfl rfl hg_
                    have hx_ := hk_.ext
                    clear hk_
                    refine flow_want rfl hy_ ?_
                    exact gives_move rfl ⟨Below.refl _ _, h9⟩
                  refine allFrom_cons ?_ ?_
                  · intro a_ w_ hk_
                    have h41 : a_.eval (.tmp 41) = (.slice (some ⟨b1, off1, none⟩) l.length c1) := hk_.got 2 41 _ (by kernel_rfl) rfl rfl
                    have h42 : a_.eval (.tmp 42) = (.int .i64 (k : Int)) := hk_.got 3 42 _ (by kernel_rfl) rfl rfl
                    have hg_ : a_.eval (.tmp 40) = .bool false := hk_.got 1 40 _ (by kernel_rfl) rfl rfl
                    have hy_ := hk_.want 1 _ 40 false rfl rfl hg_
                    have hx_ := hk_.ext
                    clear hk_
                    refine flow_want rfl hy_ ?_
                    unfold gives
                    have hc_ : ∀ v, a_.eval (.const v) = v := fun _ => rfl
                    have hn_ : ∀ f, a_.eval (.func f) = .func (.func f) #[] #[] := fun _ => rfl
                    clear hy_ hg_
                    generalize a_.eval = ρ_ at *
                    go_simp
                    exact ⟨Below.refl _ _, rfl⟩
                  refine allFrom_cons ?_ ?_
                  · intro a_ w_ hk_
                    have h43 : a_.eval (.tmp 43) = (.pointer (some ⟨b1, off1 + k * 32, none⟩)) := hk_.got 4 43 _ (by kernel_rfl) rfl rfl
                    have hg_ : a_.eval (.tmp 40) = .bool false := hk_.got 1 40 _ (by kernel_rfl) rfl rfl
                    have hy_ := hk_.want 1 _ 40 false rfl rfl hg_
                    have hx_ := hk_.ext
                    clear hk_
                    refine flow_want rfl hy_ ?_
                    exact gives_loadA rfl h43 (aggHc hy) (HD2.out _ (hbr2.trans (hx_.mono hbr2.size))) ⟨Below.refl _ _, rfl⟩
                  refine allFrom_cons ?_ ?_
                  · intro a_ w_ hk_
                    have h0 : a_.eval (.tmp 0) = .slice (some ⟨b1, off1, none⟩) l.length c1 := hk_.old 0 (by kernel_rfl)
                    have hg_ : a_.eval (.tmp 40) = .bool false := hk_.got 1 40 _ (by kernel_rfl) rfl rfl
                    have hy_ := hk_.want 1 _ 40 false rfl rfl hg_
                    have hx_ := hk_.ext
                    clear hk_
                    refine flow_want rfl hy_ ?_
                    exact gives_move rfl ⟨Below.refl _ _, h0⟩
                  refine allFrom_cons ?_ ?_
                  · intro a_ w_ hk_
                    have h6 : a_.eval (.tmp 6) = .int .i64 (i : Int) := hk_.old 6 (by kernel_rfl)
                    have hg_ : a_.eval (.tmp 40) = .bool false := hk_.got 1 40 _ (by kernel_rfl) rfl rfl
                    have hy_ := hk_.want 1 _ 40 false rfl rfl hg_
                    have hx_ := hk_.ext
                    clear hk_
                    refine flow_want rfl hy_ ?_
                    exact gives_move rfl ⟨Below.refl _ _, h6⟩
                  refine allFrom_cons ?_ ?_
                  · intro a_ w_ hk_
                    have h45 : a_.eval (.tmp 45) = (.slice (some ⟨b1, off1, none⟩) l.length c1) := hk_.got 6 45 _ (by kernel_rfl) rfl rfl
                    have h46 : a_.eval (.tmp 46) = (.int .i64 (i : Int)) := hk_.got 7 46 _ (by kernel_rfl) rfl rfl
                    have hg_ : a_.eval (.tmp 40) = .bool false := hk_.got 1 40 _ (by kernel_rfl) rfl rfl
                    have hy_ := hk_.want 1 _ 40 false rfl rfl hg_
                    have hx_ := hk_.ext
                    clear hk_
                    refine flow_want rfl hy_ ?_
                    unfold gives
                    have hc_ : ∀ v, a_.eval (.const v) = v := fun _ => rfl
                    have hn_ : ∀ f, a_.eval (.func f) = .func (.func f) #[] #[] := fun _ => rfl
                    clear hy_ hg_
                    generalize a_.eval = ρ_ at *
                    go_simp
                    exact ⟨Below.refl _ _, rfl⟩
                  refine allFrom_cons ?_ ?_
                  · intro a_ w_ hk_
                    have h47 : a_.eval (.tmp 47) = (.pointer (some ⟨b1, off1 + i * 32, none⟩)) := hk_.got 8 47 _ (by kernel_rfl) rfl rfl
                    have hg_ : a_.eval (.tmp 40) = .bool false := hk_.got 1 40 _ (by kernel_rfl) rfl rfl
                    have hy_ := hk_.want 1 _ 40 false rfl rfl hg_
                    have hx_ := hk_.ext
                    clear hk_
                    refine flow_want rfl hy_ ?_
                    exact gives_loadA rfl h47 (aggHc hx) (HD1.out _ (hbr2.trans (hx_.mono hbr2.size))) ⟨Below.refl _ _, rfl⟩
                  refine allFrom_cons ?_ ?_
                  · intro a_ w_ hk_
                    have h44 : a_.eval (.tmp 44) = (.agg (hc y).toArray) := hk_.got 5 44 _ (by kernel_rfl) rfl rfl
                    have h48 : a_.eval (.tmp 48) = (.agg (hc x).toArray) := hk_.got 9 48 _ (by kernel_rfl) rfl rfl
                    have hg_ : a_.eval (.tmp 40) = .bool false := hk_.got 1 40 _ (by kernel_rfl) rfl rfl
                    have hy_ := hk_.want 1 _ 40 false rfl rfl hg_
                    have hx_ := hk_.ext
                    clear hk_
                    refine flow_want rfl hy_ ?_
                    exact gives_eqA guardH rfl h44 h48 (eqH hy hx w_) ⟨Below.refl _ _, rfl⟩
                  refine allFrom_cons ?_ ?_
                  · intro a_ w_ hk_
                    have h40 : a_.eval (.tmp 40) = (.bool false) := hk_.got 1 40 _ (by kernel_rfl) rfl rfl
                    have h49 : a_.eval (.tmp 49) = (.bool (decide (y = x))) := hk_.got 10 49 _ (by kernel_rfl) rfl rfl
                    have hx_ := hk_.ext
                    clear hk_
                    refine flow_plain rfl ?_
                    exact gives_pick rfl h40 ⟨Below.refl _ _, h49⟩
                  exact allFrom_nil
                intro f_ w_ hx_ hf_
                have h39 : f_ 39 = (.bool false) := hf_ 0 39 _ (by decide) rfl rfl
                have h40 : f_ 40 = (.bool false) := hf_ 1 40 _ (by decide) rfl rfl
                have h41 : f_ 41 = (.slice (some ⟨b1, off1, none⟩) l.length c1) := hf_ 2 41 _ (by decide) rfl rfl
                have h42 : f_ 42 = (.int .i64 (k : Int)) := hf_ 3 42 _ (by decide) rfl rfl
                have h43 : f_ 43 = (.pointer (some ⟨b1, off1 + k * 32, none⟩)) := hf_ 4 43 _ (by decide) rfl rfl
                have h44 : f_ 44 = (.agg (hc y).toArray) := hf_ 5 44 _ (by decide) rfl rfl
                have h45 : f_ 45 = (.slice (some ⟨b1, off1, none⟩) l.length c1) := hf_ 6 45 _ (by decide) rfl rfl
                have h46 : f_ 46 = (.int .i64 (i : Int)) := hf_ 7 46 _ (by decide) rfl rfl
                have h47 : f_ 47 = (.pointer (some ⟨b1, off1 + i * 32, none⟩)) := hf_ 8 47 _ (by decide) rfl rfl
                have h48 : f_ 48 = (.agg (hc x).toArray) := hf_ 9 48 _ (by decide) rfl rfl
                have h49 : f_ 49 = (.bool (decide (y = x))) := hf_ 10 49 _ (by decide) rfl rfl
                have h50 : f_ 50 = (.bool (decide (y = x))) := hf_ 11 50 _ (by decide) rfl rfl
                simp only [mix, List.drop_succ_cons, List.drop_zero, h39, h40, h41, h42, h43, h44, h45, h46, h47, h48, h49, h50]
                clear h39 h40 h41 h42 h43 h44 h45 h46 h47 h48 h49 h50
                clear hf_
                go_wp2
                go_roundw
                case rel => exact ⟨k + 1, by omega, by go_num, by rw [HIN.out], hbi.trans (hx_.mono hbi.size)⟩
                case measure => simp [intOf]; omega
            · have hbw3 := hbi
              obtain rfl : k = i := by omega
              clear hk hlk
              have hown3 := own_keep hown hbw3
              by_cases hin : x ∈ other ++ l.take k
              · rw [decide_eq_true hin]
                rw [if_pos hin, List.append_nil] at HNS
                go_wp2
                go_roundw
                case rel => exact ⟨k + 1, by omega, by go_num, by rw [HNS.out]; exact hown3, hbr2⟩
                case measure => simp [intOf]; omega
              · rw [decide_eq_false hin]
                rw [if_neg hin] at HNS
                have hdx := HD1.out _ hbr2
                have hv5 : ∀ g5, wr.heap.size ≤ g5 → (Value.slice A9 (nots (l.take k) other).length c9).ownBlock ≠ some g5 := fun g5 hg e => Nat.lt_irrefl _ (Nat.lt_of_lt_of_le (hown3.lt _ e).2 hg)
                go_wp2_with (first
                  | (refine wpList_load_agg rfl _ _ rfl _ _ rfl (hc x) (aggHc hx) hdx ?_)
                  | (refine sl1H rfl _ rfl hx rfl ?_; intro g7 w7 hg7 hblk7 hb7; have hr7 := rd_blk hblk7; have hown7 := own_keep hown3 hb7; have hb07 := bx_trans hbr2 hb7)
                  | (at_builtin; refine wpList_app rfl _ _ _ rfl (Value.slice A9 (nots (l.take k) other).length c9) rfl _ _ _ rfl elH hown7 hr7 (by rw [hc_len hx]) (hc_one x) (by unfold maxLen; omega) (by omega) hb07.size ?_; intro v8 w8 hown8 hgr8 hv8; have hb08 := own_below hb07 hown7 hgr8))
                go_roundw
                case rel => exact ⟨k + 1, by omega, by go_num, by rw [HNS.out, List.length_append, List.map_append, List.flatten_append]; simpa using hown8, hb08⟩
                case measure => simp [intOf]; omega
    · obtain rfl : i = l.length := by omega
      rw [List.take_length] at *
      go_wp2
      go_ret
      exact ⟨.slice A9 (nots l other).length c9, rfl, hown, hbr⟩
end Go.Proofs.Ythbmmilefimpaaa
