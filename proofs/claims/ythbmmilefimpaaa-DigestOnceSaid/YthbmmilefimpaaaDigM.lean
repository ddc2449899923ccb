
/- DigestOnce: its walk. -/
import Derived.Test.YthbmmilefimpaaaDigL
namespace Go.Proofs.Ythbmmilefimpaaa
open Go.RowKit Go.Maps
set_option linter.unusedVariables false
theorem notsL_nodup {α : Type} [DecidableEq α] (other : List α) : ∀ (l pre : List α), (notsL other pre l).Nodup
  | [], _ => List.nodup_nil
  | y :: r, pre => by
    unfold notsL
    split
    · exact notsL_nodup other r _
    · refine List.nodup_cons.2 ⟨fun h => ?_, notsL_nodup other r _⟩
      have := ((mem_notsL other y r (pre ++ [y])).1 h).2
      exact this (by simp)
theorem nots_nodup {α : Type} [DecidableEq α] (l other : List α) : (nots l other).Nodup := notsL_nodup other l []
theorem notsL_id {α : Type} [DecidableEq α] (other : List α) : ∀ (l pre : List α), l.Nodup → (∀ x ∈ l, x ∉ other ++ pre) → notsL other pre l = l
  | [], _, _, _ => rfl
  | y :: r, pre, hn, h => by
    unfold notsL
    rw [if_neg (h y List.mem_cons_self), notsL_id other r (pre ++ [y]) (List.nodup_cons.1 hn).2 fun x hx hm => ?_]
    rw [← List.append_assoc] at hm
    rcases List.mem_append.1 hm with hm | hm
    · exact h x (List.mem_cons_of_mem _ hx) hm
    · rw [List.mem_singleton] at hm
      exact (List.nodup_cons.1 hn).1 (hm ▸ hx)
theorem nots_id {α : Type} [DecidableEq α] {l other : List α} (hn : l.Nodup) (h : ∀ x ∈ l, x ∉ other) : nots l other = l := notsL_id other l [] hn (fun x hx => by rw [List.append_nil]; exact h x hx)
theorem nodup_at {α : Type} {l : List α} (hn : l.Nodup) {i j : Nat} (hi : i < l.length) (hj : j < l.length) (h : l[i] = l[j]) : i = j := (List.getElem_inj hn).1 h
set_option maxRecDepth 10000 in
set_option maxHeartbeats 1000000 in
theorem DigestOnce_walk (w : World) (A0 : Option Addr) (c0 : Nat) (l0 : List Key) (hc0 : l0.length ≤ c0) (hm0 : c0 ≤ maxLen) (hx0 : ∀ k ∈ l0, kOk k) (hr0 : Rd w w.heap.size A0 (l0.map kc).flatten)
    (A1 : Option Addr) (c1 : Nat) (l1 : List Key) (hc1 : l1.length ≤ c1) (hm1 : c1 ≤ maxLen) (hx1 : ∀ k ∈ l1, kOk k) (hr1 : Rd w w.heap.size A1 (l1.map kc).flatten)
    (A2 : Option Addr) (c2 : Nat) (l2 : List (List UInt8)) (hc2 : l2.length ≤ c2) (hm2 : c2 ≤ maxLen) (hx2 : ∀ l ∈ l2, l.length = 32) (hr2 : Rd w w.heap.size A2 (l2.flatten.map cb))
    (A3 : Option Addr) (c3 : Nat) (l3 : List (List UInt8)) (hc3 : l3.length ≤ c3) (hm3 : c3 ≤ maxLen) (hx3 : ∀ l ∈ l3, l.length = 32) (hr3 : Rd w w.heap.size A3 (l3.flatten.map cb)) :
    Calls Try.prog 8 #[.slice A0 l0.length c0, .slice A1 l1.length c1, .slice A2 l2.length c2, .slice A3 l3.length c3] w fun e w' => e = .returned (.bool true) ∧ Below w.heap.size w w' := by
  unfold maxLen at hm0 hm1 hm2 hm3
  rw [List.map_flatten] at hr2 hr3
  have HR0 := hid hr0
  have HR1 := hid hr1
  have HR2 : Hid (Rd w w.heap.size A2 (l2.map hc).flatten) := hid hr2
  have HR3 : Hid (Rd w w.heap.size A3 (l3.map hc).flatten) := hid hr3
  have HX0 := hid hx0
  have HX1 := hid hx1
  have HX2 : Hid (∀ k ∈ l2, hOk k) := hid hx2
  have HX3 : Hid (∀ k ∈ l3, hOk k) := hid hx3
  clear hr0 hr1 hr2 hr3 hx0 hx1 hx2 hx3
  go_enter Try.func8, Try.ntmps8
  go_wp2_with fail
  refine (awake_any w).mono ?_
  rintro e w1 ⟨rfl, hb1⟩
  by_cases hs0 : 30 < l0.length
  · go_wp2
    go_ret
    exact ⟨rfl, hb1⟩
  by_cases hs1 : 30 < l1.length
  · go_wp2
    go_ret
    exact ⟨rfl, hb1⟩
  by_cases hs2 : 30 < l2.length
  · go_wp2
    go_ret
    exact ⟨rfl, hb1⟩
  by_cases hs3 : 30 < l3.length
  · go_wp2
    go_ret
    exact ⟨rfl, hb1⟩
  go_wp2_with (first
    | (with_reducible refine wpAt ?_; refine wpList_alloc rfl _ rfl zDg ?_; intro g10 w10 hg10 hg10' hz10 hb10; simp only [Act.put, List.setIfInBounds_toArray, List.set_cons_succ, List.set_cons_zero])
    | (with_reducible refine wpAt ?_; refine storeD rfl rfl rfl rfl hz10 ?_; intro w11 hp11; simp only [Act.put]; have hD11 := hp11.blk)
    | (with_reducible refine wpAt ?_; refine loadG rfl rfl rfl (by assumption) ?_; simp only [Act.put, List.setIfInBounds_toArray, List.set_cons_succ, List.set_cons_zero]))
  have hb011 := bx_put (bx_trans hb1 hb10) hp11 (Nat.le_trans hb1.size hg10)
  clear hb1 hz10 hb10 hp11
  refine (Wants_any w11 (l := l1) (other := l0) HX1.out HX0.out ((HR1.out.below hb011).more hb011.size) ((HR0.out.below hb011).more hb011.size) (by omega) (by omega)).mono ?_
  rintro e w12 ⟨vw, rfl, hW12, hb12⟩
  have hlw := nots_le l1 l0
  have HOW := hid (nots_ok (other := l0) HX1.out)
  have HNW := hid (fun x (h : x ∈ nots l1 l0) => (mem_nots.1 h).2)
  have HNDW := hid (nots_nodup l1 l0)
  have HSW := hid (nots_id (nots_nodup l1 l0) (fun x (h : x ∈ nots l1 l0) => (mem_nots.1 h).2))
  generalize nots l1 l0 = nw at *
  obtain ⟨AW, cW, rfl, _, _, _⟩ := own_form hW12
  have hb012 := bx_trans hb011 hb12
  have hD12 := hD11.below hb12 hD11.lt
  clear hD11 hb011
  go_wp2_with (with_reducible refine wpAt ?_; refine loadG rfl rfl rfl (by assumption) ?_; simp only [Act.put, List.setIfInBounds_toArray, List.set_cons_succ, List.set_cons_zero])
  refine (Misses_any w12 (l := l2) (other := l3) HX2.out HX3.out ((HR2.out.below hb012).more hb012.size) ((HR3.out.below hb012).more hb012.size) (by omega) (by omega)).mono ?_
  rintro e wS ⟨vm, rfl, hM, hbM⟩
  have hlm := nots_le l2 l3
  have HOM := hid (nots_ok (other := l3) HX2.out)
  have HNM := hid (fun x (h : x ∈ nots l2 l3) => (mem_nots.1 h).2)
  have HNDM := hid (nots_nodup l2 l3)
  have HSM := hid (nots_id (other := []) (nots_nodup l2 l3) (fun x h => by simp))
  generalize nots l2 l3 = nm at *
  obtain ⟨AM, cM, rfl, _, _, _⟩ := own_form hM
  have hbS := bx_trans hb012 hbM
  have hD := hD12.below hbM hD12.lt
  have hW := own_keep hW12 hbM
  have hb0 : Below wS.heap.size wS wS := Below.refl _ _
  clear hD12 hb012 hW12 hbM hb12
  go_wp2
  go_loopw [13] (fun j wr => ∃ (i : Nat), i ≤ nw.length ∧ j = .int .i64 i ∧ Below wS.heap.size wS wr) (fun j _ => nw.length - (intOf j).toNat)
  case atStart => exact ⟨0, by omega, rfl, hb0⟩
  case round =>
    obtain ⟨i, hi, rfl, hbi⟩ := hrel
    by_cases hlt : i < nw.length
    · obtain ⟨x, hxd⟩ : ∃ x, x = nw[i] := ⟨_, rfl⟩
      have hx := HOW.out _ (List.getElem_mem hlt)
      rw [← hxd] at hx
      obtain ⟨bx1, ox1, hA1, hbbx, hdx⟩ := rd_item (i := i) (own_rd hW) (mapLenK HOW.out) (by decide) (by rw [List.length_map]; exact hlt)
      rw [List.getElem_map, ← hxd] at hdx
      subst hA1
      have HDX := hid (fun (w_ : World) (hb : Below wS.heap.size wS w_) j v hv => (hb.cell (p := ⟨bx1, ox1 + i * 33 + j, none⟩) hbbx).trans (hdx j v hv))
      have hix : ∀ (k : Nat) (h : k < nw.length), nw[k] = x → k = i := fun k h e => nodup_at HNDW.out h hlt (e.trans hxd)
      have hmx : x ∈ nw := by rw [hxd]; exact List.getElem_mem hlt
      have HIX := hid hix
      clear hdx hxd hix
      go_wp2
      go_loopw [14] (fun j wr2 => ∃ (k : Nat), k ≤ l0.length ∧ j = .int .i64 k ∧ Below wS.heap.size wS wr2) (fun j _ => l0.length - (intOf j).toNat)
      case atStart => exact ⟨0, by omega, rfl, hbi⟩
      case round =>
        obtain ⟨k, hk, rfl, hbk⟩ := hrel
        by_cases hlk : k < l0.length
        · have hlk2 : k < l0.length := by omega
          obtain ⟨y, hyd⟩ : ∃ y, y = l0[k] := ⟨_, rfl⟩
          have hy := HX0.out _ (List.getElem_mem hlk2)
          have hne := (fun e => HNW.out x hmx (e ▸ List.getElem_mem hlk2) : l0[k] ≠ x)
          rw [← hyd] at hy hne
          obtain ⟨by1, oy1, hA2, hbby, hdy⟩ := rd_item (i := k) ((HR0.out.below hbS).more hbS.size) (mapLenK HX0.out) (by decide) (by rw [List.length_map]; exact hlk2)
          rw [List.getElem_map, ← hyd] at hdy
          clear hyd
          subst hA2
          have HDY := hid (fun (w_ : World) (hb : Below wS.heap.size wS w_) j v hv => (hb.cell (p := ⟨by1, oy1 + k * 33 + j, none⟩) hbby).trans (hdy j v hv))
          clear hdy
          go_wp2
          refine wp_flow (by kernel_rfl) [0, 0, 3, 7, 0, 0, 48, 112, 255] 9 [false, false, false, false, false, false, false, false, false, false, false, false, false, false, false, false, false, false, false, false, false, false, false, false, false, false, false, false, false, false, false, false, false, false, false, false, false, false, false, false, false, false, false, false, false, false, false, false, false, false, false, false, false, false, false, false, false, false, false, false, false, true, true, true, true, true, true, true, true, true] (by kernel_rfl) (by decide) (by kernel_rfl) [FP.eq (.slice (some ⟨by1, oy1, none⟩) l0.length c0), FP.eq (.int .i64 (k : Int)), FP.eq (.pointer (some ⟨by1, oy1 + k * 33, none⟩)), FP.eq (.agg (kc y).toArray), FP.eq (.slice (some ⟨bx1, ox1, none⟩) nw.length cW), FP.eq (.int .i64 (i : Int)), FP.eq (.pointer (some ⟨bx1, ox1 + i * 33, none⟩)), FP.eq (.agg (kc x).toArray), FP.eq (.bool false)] ?_ ?_
          · refine allFrom_cons ?_ ?_
            · intro a_ w_ hk_
              have h0 : a_.eval (.tmp 0) = .slice (some ⟨by1, oy1, none⟩) l0.length c0 := hk_.old 0 (by kernel_rfl)
              have hx_ := hk_.ext
              clear hk_
              refine flow_plain rfl ?_
              exact gives_move rfl ⟨Below.refl _ _, h0⟩
            refine allFrom_cons ?_ ?_
            · intro a_ w_ hk_
              have h14 : a_.eval (.tmp 14) = .int .i64 (k : Int) := hk_.old 14 (by kernel_rfl)
              have hx_ := hk_.ext
              clear hk_
              refine flow_plain rfl ?_
              exact gives_move rfl ⟨Below.refl _ _, h14⟩
            refine allFrom_cons ?_ ?_
            · intro a_ w_ hk_
              have h61 : a_.eval (.tmp 61) = (.slice (some ⟨by1, oy1, none⟩) l0.length c0) := hk_.got 0 61 _ (by kernel_rfl) rfl rfl
              have h62 : a_.eval (.tmp 62) = (.int .i64 (k : Int)) := hk_.got 1 62 _ (by kernel_rfl) rfl rfl
              have hx_ := hk_.ext
              clear hk_
              refine flow_plain rfl ?_
              unfold gives
              have hc_ : ∀ v, a_.eval (.const v) = v := fun _ => rfl
              have hn_ : ∀ f, a_.eval (.func f) = .func (.func f) #[] #[] := fun _ => rfl
              generalize a_.eval = ρ_ at *
              go_simp
              exact ⟨Below.refl _ _, rfl⟩
            refine allFrom_cons ?_ ?_
            · intro a_ w_ hk_
              have h63 : a_.eval (.tmp 63) = (.pointer (some ⟨by1, oy1 + k * 33, none⟩)) := hk_.got 2 63 _ (by kernel_rfl) rfl rfl
              have hx_ := hk_.ext
              clear hk_
              refine flow_plain rfl ?_
              exact gives_loadA rfl h63 (aggKc hy) (HDY.out _ (hbk.trans (hx_.mono hbk.size))) ⟨Below.refl _ _, rfl⟩
            refine allFrom_cons ?_ ?_
            · intro a_ w_ hk_
              have h11 : a_.eval (.tmp 11) = .slice (some ⟨bx1, ox1, none⟩) nw.length cW := hk_.old 11 (by kernel_rfl)
              have hx_ := hk_.ext
              clear hk_
              refine flow_plain rfl ?_
              exact gives_move rfl ⟨Below.refl _ _, h11⟩
            refine allFrom_cons ?_ ?_
            · intro a_ w_ hk_
              have h13 : a_.eval (.tmp 13) = .int .i64 (i : Int) := hk_.old 13 (by kernel_rfl)
              have hx_ := hk_.ext
              clear hk_
              refine flow_plain rfl ?_
              exact gives_move rfl ⟨Below.refl _ _, h13⟩
            refine allFrom_cons ?_ ?_
            · intro a_ w_ hk_
              have h65 : a_.eval (.tmp 65) = (.slice (some ⟨bx1, ox1, none⟩) nw.length cW) := hk_.got 4 65 _ (by kernel_rfl) rfl rfl
              have h66 : a_.eval (.tmp 66) = (.int .i64 (i : Int)) := hk_.got 5 66 _ (by kernel_rfl) rfl rfl
              have hx_ := hk_.ext
              clear hk_
              refine flow_plain rfl ?_
              unfold gives
              have hc_ : ∀ v, a_.eval (.const v) = v := fun _ => rfl
              have hn_ : ∀ f, a_.eval (.func f) = .func (.func f) #[] #[] := fun _ => rfl
              generalize a_.eval = ρ_ at *
              go_simp
              exact ⟨Below.refl _ _, rfl⟩
            refine allFrom_cons ?_ ?_
            · intro a_ w_ hk_
              have h67 : a_.eval (.tmp 67) = (.pointer (some ⟨bx1, ox1 + i * 33, none⟩)) := hk_.got 6 67 _ (by kernel_rfl) rfl rfl
              have hx_ := hk_.ext
              clear hk_
              refine flow_plain rfl ?_
              exact gives_loadA rfl h67 (aggKc hx) (HDX.out _ (hbk.trans (hx_.mono hbk.size))) ⟨Below.refl _ _, rfl⟩
            refine allFrom_cons ?_ ?_
            · intro a_ w_ hk_
              have h64 : a_.eval (.tmp 64) = (.agg (kc y).toArray) := hk_.got 3 64 _ (by kernel_rfl) rfl rfl
              have h68 : a_.eval (.tmp 68) = (.agg (kc x).toArray) := hk_.got 7 68 _ (by kernel_rfl) rfl rfl
              have hx_ := hk_.ext
              clear hk_
              refine flow_plain rfl ?_
              exact gives_eqA guardK rfl h64 h68 (by rw [eqK hy hx w_, decide_eq_false hne]) ⟨Below.refl _ _, rfl⟩
            exact allFrom_nil
          intro f_ w_ hx_ hf_
          have h61 : f_ 61 = (.slice (some ⟨by1, oy1, none⟩) l0.length c0) := hf_ 0 61 _ (by decide) rfl rfl
          have h62 : f_ 62 = (.int .i64 (k : Int)) := hf_ 1 62 _ (by decide) rfl rfl
          have h63 : f_ 63 = (.pointer (some ⟨by1, oy1 + k * 33, none⟩)) := hf_ 2 63 _ (by decide) rfl rfl
          have h64 : f_ 64 = (.agg (kc y).toArray) := hf_ 3 64 _ (by decide) rfl rfl
          have h65 : f_ 65 = (.slice (some ⟨bx1, ox1, none⟩) nw.length cW) := hf_ 4 65 _ (by decide) rfl rfl
          have h66 : f_ 66 = (.int .i64 (i : Int)) := hf_ 5 66 _ (by decide) rfl rfl
          have h67 : f_ 67 = (.pointer (some ⟨bx1, ox1 + i * 33, none⟩)) := hf_ 6 67 _ (by decide) rfl rfl
          have h68 : f_ 68 = (.agg (kc x).toArray) := hf_ 7 68 _ (by decide) rfl rfl
          have h69 : f_ 69 = (.bool false) := hf_ 8 69 _ (by decide) rfl rfl
          simp only [mix, List.drop_succ_cons, List.drop_zero, h61, h62, h63, h64, h65, h66, h67, h68, h69]
          clear h61 h62 h63 h64 h65 h66 h67 h68 h69
          clear hf_
          go_wp2
          go_roundw
          case rel => exact ⟨k + 1, by omega, by go_num, hbk.trans (hx_.mono hbk.size)⟩
          case measure => simp [intOf]; omega
        · have hbi := hbk
          go_wp2
          go_loopw [15] (fun j wr2 => ∃ (k : Nat), k ≤ i ∧ j = .int .i64 k ∧ Below wS.heap.size wS wr2) (fun j _ => i - (intOf j).toNat)
          case atStart => exact ⟨0, by omega, rfl, hbi⟩
          case round =>
            obtain ⟨k, hk, rfl, hbk⟩ := hrel
            by_cases hlk : k < i
            · have hlk2 : k < nw.length := by omega
              obtain ⟨y, hyd⟩ : ∃ y, y = nw[k] := ⟨_, rfl⟩
              have hy := HOW.out _ (List.getElem_mem hlk2)
              have hne := (fun e => Nat.ne_of_lt hlk (HIX.out k hlk2 e) : nw[k] ≠ x)
              rw [← hyd] at hy hne
              obtain ⟨by1, oy1, hA2, hbby, hdy⟩ := rd_item (i := k) (own_rd hW) (mapLenK HOW.out) (by decide) (by rw [List.length_map]; exact hlk2)
              rw [List.getElem_map, ← hyd] at hdy
              clear hyd
              obtain ⟨rfl, rfl⟩ : by1 = bx1 ∧ oy1 = ox1 := by (injection hA2 with hA2; injection hA2 with e1 e2; exact ⟨e1.symm, e2.symm⟩)
              have HDY := hid (fun (w_ : World) (hb : Below wS.heap.size wS w_) j v hv => (hb.cell (p := ⟨by1, oy1 + k * 33 + j, none⟩) hbby).trans (hdy j v hv))
              clear hdy
              go_wp2
              refine wp_flow (by kernel_rfl) [0, 0, 3, 7, 0, 0, 48, 112, 255] 9 [false, false, false, false, false, false, false, false, false, false, false, false, false, false, false, false, false, false, false, false, false, false, false, false, false, false, false, false, false, false, false, false, false, false, false, false, false, false, false, false, false, false, false, false, false, false, false, false, false, false, false, false, false, false, false, false, false, false, false, false, false, false, false, false, false, false, false, false, false, false, false, false, false, false, false, true, true, true, true, true, true, true, true, true] (by kernel_rfl) (by decide) (by kernel_rfl) [FP.eq (.slice (some ⟨by1, oy1, none⟩) nw.length cW), FP.eq (.int .i64 (k : Int)), FP.eq (.pointer (some ⟨by1, oy1 + k * 33, none⟩)), FP.eq (.agg (kc y).toArray), FP.eq (.slice (some ⟨by1, oy1, none⟩) nw.length cW), FP.eq (.int .i64 (i : Int)), FP.eq (.pointer (some ⟨by1, oy1 + i * 33, none⟩)), FP.eq (.agg (kc x).toArray), FP.eq (.bool false)] ?_ ?_
              · refine allFrom_cons ?_ ?_
                · intro a_ w_ hk_
                  have h11 : a_.eval (.tmp 11) = .slice (some ⟨by1, oy1, none⟩) nw.length cW := hk_.old 11 (by kernel_rfl)
                  have hx_ := hk_.ext
                  clear hk_
                  refine flow_plain rfl ?_
                  exact gives_move rfl ⟨Below.refl _ _, h11⟩
                refine allFrom_cons ?_ ?_
                · intro a_ w_ hk_
                  have h15 : a_.eval (.tmp 15) = .int .i64 (k : Int) := hk_.old 15 (by kernel_rfl)
                  have hx_ := hk_.ext
                  clear hk_
                  refine flow_plain rfl ?_
                  exact gives_move rfl ⟨Below.refl _ _, h15⟩
                refine allFrom_cons ?_ ?_
                · intro a_ w_ hk_
                  have h75 : a_.eval (.tmp 75) = (.slice (some ⟨by1, oy1, none⟩) nw.length cW) := hk_.got 0 75 _ (by kernel_rfl) rfl rfl
                  have h76 : a_.eval (.tmp 76) = (.int .i64 (k : Int)) := hk_.got 1 76 _ (by kernel_rfl) rfl rfl
                  have hx_ := hk_.ext
                  clear hk_
                  refine flow_plain rfl ?_
                  unfold gives
                  have hc_ : ∀ v, a_.eval (.const v) = v := fun _ => rfl
                  have hn_ : ∀ f, a_.eval (.func f) = .func (.func f) #[] #[] := fun _ => rfl
                  generalize a_.eval = ρ_ at *
                  go_simp
                  exact ⟨Below.refl _ _, rfl⟩
                refine allFrom_cons ?_ ?_
                · intro a_ w_ hk_
                  have h77 : a_.eval (.tmp 77) = (.pointer (some ⟨by1, oy1 + k * 33, none⟩)) := hk_.got 2 77 _ (by kernel_rfl) rfl rfl
                  have hx_ := hk_.ext
                  clear hk_
                  refine flow_plain rfl ?_
                  exact gives_loadA rfl h77 (aggKc hy) (HDY.out _ (hbk.trans (hx_.mono hbk.size))) ⟨Below.refl _ _, rfl⟩
                refine allFrom_cons ?_ ?_
                · intro a_ w_ hk_
                  have h11 : a_.eval (.tmp 11) = .slice (some ⟨by1, oy1, none⟩) nw.length cW := hk_.old 11 (by kernel_rfl)
                  have hx_ := hk_.ext
                  clear hk_
                  refine flow_plain rfl ?_
                  exact gives_move rfl ⟨Below.refl _ _, h11⟩
                refine allFrom_cons ?_ ?_
                · intro a_ w_ hk_
                  have h13 : a_.eval (.tmp 13) = .int .i64 (i : Int) := hk_.old 13 (by kernel_rfl)
                  have hx_ := hk_.ext
                  clear hk_
                  refine flow_plain rfl ?_
                  exact gives_move rfl ⟨Below.refl _ _, h13⟩
                refine allFrom_cons ?_ ?_
                · intro a_ w_ hk_
                  have h79 : a_.eval (.tmp 79) = (.slice (some ⟨by1, oy1, none⟩) nw.length cW) := hk_.got 4 79 _ (by kernel_rfl) rfl rfl
                  have h80 : a_.eval (.tmp 80) = (.int .i64 (i : Int)) := hk_.got 5 80 _ (by kernel_rfl) rfl rfl
                  have hx_ := hk_.ext
                  clear hk_
                  refine flow_plain rfl ?_
                  unfold gives
                  have hc_ : ∀ v, a_.eval (.const v) = v := fun _ => rfl
                  have hn_ : ∀ f, a_.eval (.func f) = .func (.func f) #[] #[] := fun _ => rfl
                  generalize a_.eval = ρ_ at *
                  go_simp
                  exact ⟨Below.refl _ _, rfl⟩
                refine allFrom_cons ?_ ?_
                · intro a_ w_ hk_
                  have h81 : a_.eval (.tmp 81) = (.pointer (some ⟨by1, oy1 + i * 33, none⟩)) := hk_.got 6 81 _ (by kernel_rfl) rfl rfl
                  have hx_ := hk_.ext
                  clear hk_
                  refine flow_plain rfl ?_
                  exact gives_loadA rfl h81 (aggKc hx) (HDX.out _ (hbk.trans (hx_.mono hbk.size))) ⟨Below.refl _ _, rfl⟩
                refine allFrom_cons ?_ ?_
                · intro a_ w_ hk_
                  have h78 : a_.eval (.tmp 78) = (.agg (kc y).toArray) := hk_.got 3 78 _ (by kernel_rfl) rfl rfl
                  have h82 : a_.eval (.tmp 82) = (.agg (kc x).toArray) := hk_.got 7 82 _ (by kernel_rfl) rfl rfl
                  have hx_ := hk_.ext
                  clear hk_
                  refine flow_plain rfl ?_
                  exact gives_eqA guardK rfl h78 h82 (by rw [eqK hy hx w_, decide_eq_false hne]) ⟨Below.refl _ _, rfl⟩
                exact allFrom_nil
              intro f_ w_ hx_ hf_
              have h75 : f_ 75 = (.slice (some ⟨by1, oy1, none⟩) nw.length cW) := hf_ 0 75 _ (by decide) rfl rfl
              have h76 : f_ 76 = (.int .i64 (k : Int)) := hf_ 1 76 _ (by decide) rfl rfl
              have h77 : f_ 77 = (.pointer (some ⟨by1, oy1 + k * 33, none⟩)) := hf_ 2 77 _ (by decide) rfl rfl
              have h78 : f_ 78 = (.agg (kc y).toArray) := hf_ 3 78 _ (by decide) rfl rfl
              have h79 : f_ 79 = (.slice (some ⟨by1, oy1, none⟩) nw.length cW) := hf_ 4 79 _ (by decide) rfl rfl
              have h80 : f_ 80 = (.int .i64 (i : Int)) := hf_ 5 80 _ (by decide) rfl rfl
              have h81 : f_ 81 = (.pointer (some ⟨by1, oy1 + i * 33, none⟩)) := hf_ 6 81 _ (by decide) rfl rfl
              have h82 : f_ 82 = (.agg (kc x).toArray) := hf_ 7 82 _ (by decide) rfl rfl
              have h83 : f_ 83 = (.bool false) := hf_ 8 83 _ (by decide) rfl rfl
              simp only [mix, List.drop_succ_cons, List.drop_zero, h75, h76, h77, h78, h79, h80, h81, h82, h83]
              clear h75 h76 h77 h78 h79 h80 h81 h82 h83
              clear hf_
              go_wp2
              go_roundw
              case rel => exact ⟨k + 1, by omega, by go_num, hbk.trans (hx_.mono hbk.size)⟩
              case measure => simp [intOf]; omega
            · have hbi := hbk
              go_wp2
              go_roundw
              case rel => exact ⟨i + 1, by omega, by go_num, hbi⟩
              case measure => simp [intOf]; omega
    · have hb0 := hbi
      go_wp2
      go_loopw [16] (fun j wr => ∃ (i : Nat), i ≤ nm.length ∧ j = .int .i64 i ∧ Below wS.heap.size wS wr) (fun j _ => nm.length - (intOf j).toNat)
      case atStart => exact ⟨0, by omega, rfl, hb0⟩
      case round =>
        obtain ⟨i, hi, rfl, hbi⟩ := hrel
        by_cases hlt : i < nm.length
        · obtain ⟨x, hxd⟩ : ∃ x, x = nm[i] := ⟨_, rfl⟩
          have hx := HOM.out _ (List.getElem_mem hlt)
          rw [← hxd] at hx
          obtain ⟨bx1, ox1, hA1, hbbx, hdx⟩ := rd_item (i := i) (own_rd hM) (mapLenH HOM.out) (by decide) (by rw [List.length_map]; exact hlt)
          rw [List.getElem_map, ← hxd] at hdx
          subst hA1
          have HDX := hid (fun (w_ : World) (hb : Below wS.heap.size wS w_) j v hv => (hb.cell (p := ⟨bx1, ox1 + i * 32 + j, none⟩) hbbx).trans (hdx j v hv))
          have hix : ∀ (k : Nat) (h : k < nm.length), nm[k] = x → k = i := fun k h e => nodup_at HNDM.out h hlt (e.trans hxd)
          have hmx : x ∈ nm := by rw [hxd]; exact List.getElem_mem hlt
          have HIX := hid hix
          clear hdx hxd hix
          go_wp2
          go_loopw [17] (fun j wr2 => ∃ (k : Nat), k ≤ l3.length ∧ j = .int .i64 k ∧ Below wS.heap.size wS wr2) (fun j _ => l3.length - (intOf j).toNat)
          case atStart => exact ⟨0, by omega, rfl, hbi⟩
          case round =>
            obtain ⟨k, hk, rfl, hbk⟩ := hrel
            by_cases hlk : k < l3.length
            · have hlk2 : k < l3.length := by omega
              obtain ⟨y, hyd⟩ : ∃ y, y = l3[k] := ⟨_, rfl⟩
              have hy := HX3.out _ (List.getElem_mem hlk2)
              have hne := (fun e => HNM.out x hmx (e ▸ List.getElem_mem hlk2) : l3[k] ≠ x)
              rw [← hyd] at hy hne
              obtain ⟨by1, oy1, hA2, hbby, hdy⟩ := rd_item (i := k) ((HR3.out.below hbS).more hbS.size) (mapLenH HX3.out) (by decide) (by rw [List.length_map]; exact hlk2)
              rw [List.getElem_map, ← hyd] at hdy
              clear hyd
              subst hA2
              have HDY := hid (fun (w_ : World) (hb : Below wS.heap.size wS w_) j v hv => (hb.cell (p := ⟨by1, oy1 + k * 32 + j, none⟩) hbby).trans (hdy j v hv))
              clear hdy
              go_wp2
              refine wp_flow (by kernel_rfl) [0, 0, 3, 7, 0, 0, 48, 112, 255] 9 [false, false, false, false, false, false, false, false, false, false, false, false, false, false, false, false, false, false, false, false, false, false, false, false, false, false, false, false, false, false, false, false, false, false, false, false, false, false, false, false, false, false, false, false, false, false, false, false, false, false, false, false, false, false, false, false, false, false, false, false, false, false, false, false, false, false, false, false, false, false, false, false, false, false, false, false, false, false, false, false, false, false, false, false, false, false, false, false, false, false, false, false, false, false, false, false, true, true, true, true, true, true, true, true, true] (by kernel_rfl) (by decide) (by kernel_rfl) [FP.eq (.slice (some ⟨by1, oy1, none⟩) l3.length c3), FP.eq (.int .i64 (k : Int)), FP.eq (.pointer (some ⟨by1, oy1 + k * 32, none⟩)), FP.eq (.agg (hc y).toArray), FP.eq (.slice (some ⟨bx1, ox1, none⟩) nm.length cM), FP.eq (.int .i64 (i : Int)), FP.eq (.pointer (some ⟨bx1, ox1 + i * 32, none⟩)), FP.eq (.agg (hc x).toArray), FP.eq (.bool false)] ?_ ?_
              · refine allFrom_cons ?_ ?_
                · intro a_ w_ hk_
                  have h3 : a_.eval (.tmp 3) = .slice (some ⟨by1, oy1, none⟩) l3.length c3 := hk_.old 3 (by kernel_rfl)
                  have hx_ := hk_.ext
                  clear hk_
                  refine flow_plain rfl ?_
                  exact gives_move rfl ⟨Below.refl _ _, h3⟩
                refine allFrom_cons ?_ ?_
                · intro a_ w_ hk_
                  have h17 : a_.eval (.tmp 17) = .int .i64 (k : Int) := hk_.old 17 (by kernel_rfl)
                  have hx_ := hk_.ext
                  clear hk_
                  refine flow_plain rfl ?_
                  exact gives_move rfl ⟨Below.refl _ _, h17⟩
                refine allFrom_cons ?_ ?_
                · intro a_ w_ hk_
                  have h96 : a_.eval (.tmp 96) = (.slice (some ⟨by1, oy1, none⟩) l3.length c3) := hk_.got 0 96 _ (by kernel_rfl) rfl rfl
                  have h97 : a_.eval (.tmp 97) = (.int .i64 (k : Int)) := hk_.got 1 97 _ (by kernel_rfl) rfl rfl
                  have hx_ := hk_.ext
                  clear hk_
                  refine flow_plain rfl ?_
                  unfold gives
                  have hc_ : ∀ v, a_.eval (.const v) = v := fun _ => rfl
                  have hn_ : ∀ f, a_.eval (.func f) = .func (.func f) #[] #[] := fun _ => rfl
                  generalize a_.eval = ρ_ at *
                  go_simp
                  exact ⟨Below.refl _ _, rfl⟩
                refine allFrom_cons ?_ ?_
                · intro a_ w_ hk_
                  have h98 : a_.eval (.tmp 98) = (.pointer (some ⟨by1, oy1 + k * 32, none⟩)) := hk_.got 2 98 _ (by kernel_rfl) rfl rfl
                  have hx_ := hk_.ext
                  clear hk_
                  refine flow_plain rfl ?_
                  exact gives_loadA rfl h98 (aggHc hy) (HDY.out _ (hbk.trans (hx_.mono hbk.size))) ⟨Below.refl _ _, rfl⟩
                refine allFrom_cons ?_ ?_
                · intro a_ w_ hk_
                  have h12 : a_.eval (.tmp 12) = .slice (some ⟨bx1, ox1, none⟩) nm.length cM := hk_.old 12 (by kernel_rfl)
                  have hx_ := hk_.ext
                  clear hk_
                  refine flow_plain rfl ?_
                  exact gives_move rfl ⟨Below.refl _ _, h12⟩
                refine allFrom_cons ?_ ?_
                · intro a_ w_ hk_
                  have h16 : a_.eval (.tmp 16) = .int .i64 (i : Int) := hk_.old 16 (by kernel_rfl)
                  have hx_ := hk_.ext
                  clear hk_
                  refine flow_plain rfl ?_
                  exact gives_move rfl ⟨Below.refl _ _, h16⟩
                refine allFrom_cons ?_ ?_
                · intro a_ w_ hk_
                  have h100 : a_.eval (.tmp 100) = (.slice (some ⟨bx1, ox1, none⟩) nm.length cM) := hk_.got 4 100 _ (by kernel_rfl) rfl rfl
                  have h101 : a_.eval (.tmp 101) = (.int .i64 (i : Int)) := hk_.got 5 101 _ (by kernel_rfl) rfl rfl
                  have hx_ := hk_.ext
                  clear hk_
                  refine flow_plain rfl ?_
                  unfold gives
                  have hc_ : ∀ v, a_.eval (.const v) = v := fun _ => rfl
                  have hn_ : ∀ f, a_.eval (.func f) = .func (.func f) #[] #[] := fun _ => rfl
                  generalize a_.eval = ρ_ at *
                  go_simp
                  exact ⟨Below.refl _ _, rfl⟩
                refine allFrom_cons ?_ ?_
                · intro a_ w_ hk_
                  have h102 : a_.eval (.tmp 102) = (.pointer (some ⟨bx1, ox1 + i * 32, none⟩)) := hk_.got 6 102 _ (by kernel_rfl) rfl rfl
                  have hx_ := hk_.ext
                  clear hk_
                  refine flow_plain rfl ?_
                  exact gives_loadA rfl h102 (aggHc hx) (HDX.out _ (hbk.trans (hx_.mono hbk.size))) ⟨Below.refl _ _, rfl⟩
                refine allFrom_cons ?_ ?_
                · intro a_ w_ hk_
                  have h99 : a_.eval (.tmp 99) = (.agg (hc y).toArray) := hk_.got 3 99 _ (by kernel_rfl) rfl rfl
                  have h103 : a_.eval (.tmp 103) = (.agg (hc x).toArray) := hk_.got 7 103 _ (by kernel_rfl) rfl rfl
                  have hx_ := hk_.ext
                  clear hk_
                  refine flow_plain rfl ?_
                  exact gives_eqA guardH rfl h99 h103 (by rw [eqH hy hx w_, decide_eq_false hne]) ⟨Below.refl _ _, rfl⟩
                exact allFrom_nil
              intro f_ w_ hx_ hf_
              have h96 : f_ 96 = (.slice (some ⟨by1, oy1, none⟩) l3.length c3) := hf_ 0 96 _ (by decide) rfl rfl
              have h97 : f_ 97 = (.int .i64 (k : Int)) := hf_ 1 97 _ (by decide) rfl rfl
              have h98 : f_ 98 = (.pointer (some ⟨by1, oy1 + k * 32, none⟩)) := hf_ 2 98 _ (by decide) rfl rfl
              have h99 : f_ 99 = (.agg (hc y).toArray) := hf_ 3 99 _ (by decide) rfl rfl
              have h100 : f_ 100 = (.slice (some ⟨bx1, ox1, none⟩) nm.length cM) := hf_ 4 100 _ (by decide) rfl rfl
              have h101 : f_ 101 = (.int .i64 (i : Int)) := hf_ 5 101 _ (by decide) rfl rfl
              have h102 : f_ 102 = (.pointer (some ⟨bx1, ox1 + i * 32, none⟩)) := hf_ 6 102 _ (by decide) rfl rfl
              have h103 : f_ 103 = (.agg (hc x).toArray) := hf_ 7 103 _ (by decide) rfl rfl
              have h104 : f_ 104 = (.bool false) := hf_ 8 104 _ (by decide) rfl rfl
              simp only [mix, List.drop_succ_cons, List.drop_zero, h96, h97, h98, h99, h100, h101, h102, h103, h104]
              clear h96 h97 h98 h99 h100 h101 h102 h103 h104
              clear hf_
              go_wp2
              go_roundw
              case rel => exact ⟨k + 1, by omega, by go_num, hbk.trans (hx_.mono hbk.size)⟩
              case measure => simp [intOf]; omega
            · have hbi := hbk
              go_wp2
              go_roundw
              case rel => exact ⟨i + 1, by omega, by go_num, hbi⟩
              case measure => simp [intOf]; omega
        · have hb0 := hbi
          rename World => wE
          have hWE := own_keep hW hb0
          have hME := own_keep hM hb0
          have hDE := hD.below hb0 hD.lt
          have hbE := bx_trans hbS hb0
          clear hb0
          go_wp2_with (with_reducible refine wpAt ?_; refine buildD1 rfl rfl rfl ?_; simp only [Act.put, List.setIfInBounds_toArray, List.set_cons_succ, List.set_cons_zero])
          refine (Wants_any wE (l := nw) (other := l0) HOW.out HX0.out (own_rd hWE) ((HR0.out.below hbE).more hbE.size) (by omega) (by omega)).mono ?_
          rintro e w20 ⟨va, rfl, hA20, hb20⟩
          rw [HSW.out] at hA20
          obtain ⟨AA, cA, rfl, _, _, _⟩ := own_form hA20
          have hb020 := bx_trans hbE hb20
          have hD20 := hDE.below hb20 hDE.lt
          have hM20 := own_keep hME hb20
          clear hA20 hWE
          go_wp2_with (with_reducible refine wpAt ?_; refine loadG rfl rfl rfl (by assumption) ?_; simp only [Act.put, List.setIfInBounds_toArray, List.set_cons_succ, List.set_cons_zero])
          refine (Wants_any w20 (l := l1) (other := l1) HX1.out HX1.out ((HR1.out.below hb020).more hb020.size) ((HR1.out.below hb020).more hb020.size) (by omega) (by omega)).mono ?_
          rintro e w21 ⟨va, rfl, hA21, hb21⟩
          rw [nots_nil (fun x h => h)] at hA21
          obtain ⟨AB, cB, rfl, _, _, _⟩ := own_form hA21
          have hb021 := bx_trans hb020 hb21
          have hD21 := hD20.below hb21 hD20.lt
          have hM21 := own_keep hM20 hb21
          clear hA21 hD20 hDE hD
          go_wp2_with (with_reducible refine wpAt ?_; refine loadG rfl rfl rfl (by assumption) ?_; simp only [Act.put, List.setIfInBounds_toArray, List.set_cons_succ, List.set_cons_zero])
          refine (Misses_any w21 (l := l3) (other := l3) HX3.out HX3.out ((HR3.out.below hb021).more hb021.size) ((HR3.out.below hb021).more hb021.size) (by omega) (by omega)).mono ?_
          rintro e w22 ⟨va, rfl, hA22, hb22⟩
          rw [nots_nil (fun x h => h)] at hA22
          obtain ⟨AC, cC, rfl, _, _, _⟩ := own_form hA22
          have hb022 := bx_trans hb021 hb22
          have hM22 := own_keep hM21 hb22
          clear hA22
          go_wp2_with fail
          refine (Misses_any w22 (l := nm) (other := []) HOM.out (by simp) (own_rd hM22) (.inl rfl) (by omega) (by simp)).mono ?_
          rintro e w23 ⟨va, rfl, hA23, hb23⟩
          rw [HSM.out] at hA23
          obtain ⟨AE, cE, rfl, _, _, _⟩ := own_form hA23
          go_wp2
          go_ret
          exact ⟨rfl, bx_trans hb022 hb23⟩
end Go.Proofs.Ythbmmilefimpaaa
