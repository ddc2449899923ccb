
/- octet: the reader's Hash. -/
import Derived.Test.YthbmmilefimpaaaOctE
import Derived.Laws.CopyOwn
namespace Go.Proofs.Ythbmmilefimpaaa
open Go.RowKit
set_option linter.unusedVariables false

theorem zeroH : ZeroT Try.prog 52 (.agg (List.replicate 32 (cb 0)).toArray) := zeroT_of (by kernel_rfl)
theorem aggH : AggT Try.prog 52 32 := aggT_of Try.underlying52 rfl (by kernel_rfl)
theorem aggHL {h : List UInt8} (hl : h.length = 32) : AggT Try.prog 52 (h.map cb).length := by rw [List.length_map, hl]; exact aggH
theorem aggHS {h : List UInt8} (hl : h.length = 32) : AggT Try.prog 52 (h.map cb).toArray.size := by rw [List.size_toArray]; exact aggHL hl
theorem one_cbA (l : List UInt8) : ∀ v ∈ (l.map cb).toArray.toList, v.oneCell' = true := by simpa using one_cb l
theorem takeV32 (s : RS) : (takeV s 32).length = 32 ∨ takeV s 32 = [] := by
  unfold takeV
  split
  · split
    · exact .inr rfl
    · rw [List.length_take]; left; omega
  · exact .inr rfl
theorem out_ne {w : World} {A : Option Addr} (ho : ∀ a, A = some a → ∃ cs fr, w.heap[a.block]? = some (.cells cs 5 fr)) {g' : Nat} {t : TypeId} {c0 : Array Value} (hb : Blk w g' t c0) (ht : t ≠ 5) : ∀ a, A = some a → a.block ≠ g' := by
  rintro a e rfl
  obtain ⟨cs, fr, hh⟩ := ho a e
  unfold Blk at hb
  rw [hh] at hb
  injection hb with hb
  injection hb with _ h2
  exact ht h2.symm
/-- A block of another kind is written: the reader, and what was read, stay. -/
theorem Rr.other {w w1 : World} {g g' : Nat} {s : RS} {t : TypeId} {c0 cs : Array Value} (h : Rr w g s) (hb : Blk w g' t c0) (hp : Put w w1 g' t cs) (ht : t ≠ 5) (hg : g ≠ g') : Rr w1 g s := by
  obtain ⟨A, c, h⟩ := h
  have hne := out_ne h.out hb ht
  exact ⟨A, c, (hp.oth g hg).trans h.blk, (h.rd.grown (rg_put hp) hne).more (Nat.le_of_eq hp.size.symm), h.len, h.cap, out_grown h.out (rg_put hp) hne⟩
theorem SlO.other {w w1 : World} {g' : Nat} {v : Value} {l : List UInt8} {t : TypeId} {c0 cs : Array Value} (h : SlO w v l) (hb : Blk w g' t c0) (hp : Put w w1 g' t cs) (ht : t ≠ 5) : SlO w1 v l := by
  obtain ⟨A, c, h1, h2, h3, h4, h5⟩ := h
  have hne := out_ne h5 hb ht
  exact ⟨A, c, h1, h2, h3, (h4.grown (rg_put hp) hne).more (Nat.le_of_eq hp.size.symm), out_grown h5 (rg_put hp) hne⟩
theorem SlO.below {w w1 : World} {v : Value} {l : List UInt8} (h : SlO w v l) (hb : Below w.heap.size w w1) : SlO w1 v l := by
  obtain ⟨A, c, h1, h2, h3, h4, h5⟩ := h
  exact ⟨A, c, h1, h2, h3, (h4.below hb).more hb.size, fun a e => by
    obtain ⟨cs, fr, hh⟩ := h5 a e
    exact ⟨cs, fr, (hb.block _ (Array.getElem?_eq_some_iff.1 hh).1).trans hh⟩⟩
/-- A reader's call leaves what was read before. -/
theorem SlO.grown {w w1 : World} {g : Nat} {s : RS} {v : Value} {l : List UInt8} (h : SlO w v l) (hr : Rr w g s) (hg : w.grownBy w1 (some g)) : SlO w1 v l := by
  obtain ⟨A, c, h1, h2, h3, h4, h5⟩ := h
  obtain ⟨A', c', hR⟩ := hr
  have hne := out_ne h5 hR.blk (by decide)
  exact ⟨A, c, h1, h2, h3, (h4.grown hg hne).more hg.size, out_grown h5 hg hne⟩
theorem size8 : ((Try.prog).info? 5).map (·.size) = some 1 := by kernel_rfl
theorem spl32 {l : List UInt8} (h : l.length = 32) : (Value.agg (List.replicate 32 (cb 0)).toArray).cells.toList.take 0 ++ (l.map cb ++ (Value.agg (List.replicate 32 (cb 0)).toArray).cells.toList.drop (0 + (l.map cb).length)) = l.map cb := by
  rw [List.drop_eq_nil_of_le (by
    show ((List.replicate 32 (cb 0)).toArray).toList.length ≤ _
    simp [h])]
  simp
theorem splH {l : List UInt8} (h : l.length = 32) : spl (Value.agg (List.replicate 32 (cb 0)).toArray).cells 0 (l.map cb).toArray.toList = (l.map cb).toArray := spl_whole (by
  show (List.replicate 32 (cb 0)).toArray.size = _
  simp [h])
theorem szH {l : List UInt8} (h : l.length = 32) : 0 + (l.map cb).toArray.size ≤ (Value.agg (List.replicate 32 (cb 0)).toArray).cells.size := by
  show 0 + (l.map cb).toArray.size ≤ (List.replicate 32 (cb 0)).toArray.size
  simp [h]
theorem blk_zero {w : World} {g : Nat} (h : Blk w g 52 (Value.agg (List.replicate 32 (cb 0)).toArray).cells) : Blk w g 52 ((List.replicate 32 (0 : UInt8)).map cb).toArray := by
  rw [List.map_replicate]
  exact h
set_option maxRecDepth 100000 in
set_option maxHeartbeats 800000 in
theorem RHash_any (w : World) {g : Nat} {s : RS} {A : Option Addr} {c : Nat} (h : IsR w g s A c) (hl : s.b.length ≤ 1000000000) :
    Calls Try.prog 37 #[.pointer (some ⟨g, 0, none⟩)] w fun e w' => e = .returned (.agg ((hashV s).map cb).toArray) ∧ Rr w' g (takeS s 32) ∧ w.grownBy w' (some g) := by
  go_enter Try.func37, Try.ntmps37
  go_wp2_with (refine wpList_alloc rfl _ rfl zeroH ?_; intro g3 w3 hg3 hg3' hblk3 hb3)
  rename_i g2 w2 hg2 hg2' hblk2 hb2 _ _
  have hblk23 := hblk2.below hb3 hg2'
  have hb03 := bx_trans hb2 hb3
  have h3 := h.below hb03
  have hgl := h.blk.lt
  have h23 : g2 < g3 := by omega
  have hgw3 : g ≠ g3 := by omega
  have hgw2 : g ≠ g2 := by omega
  clear hblk2 hb2 hb3
  have H3 := hid h3
  clear h3
  simp only [Act.put, List.setIfInBounds_toArray, List.set_cons_succ, List.set_cons_zero]
  refine wp_flowQ (by kernel_rfl) [0, 0, 2, 7] 2 [false, false, false, false, true, true, true, false] (by kernel_rfl) (by decide) (by kernel_rfl) [FP.eq (.slice (some ⟨g3, 0, none⟩) 32 32), FP.eq (.pointer (some ⟨g, 0, none⟩))] (fun v w4 => SlO w4 v (takeV s 32) ∧ Rr w4 g (takeS s 32) ∧ w3.grownBy w4 (some g)) ?_ (q_of rfl ⟨rfl, ?_⟩) ?_
  · refine allFrom_cons (stepQ_late (by kernel_rfl) rfl ?_) ?_
    · intro a_ w_ hk_
      have h3 : a_.eval (.tmp 3) = .pointer (some ⟨g3, 0, none⟩) := hk_ 3 (by kernel_rfl)
      clear hk_
      unfold gives
      have hc_ : ∀ v, a_.eval (.const v) = v := fun _ => rfl
      have hn_ : ∀ f, a_.eval (.func f) = .func (.func f) #[] #[] := fun _ => rfl
      generalize a_.eval = ρ_ at *
      go_simp
      exact ⟨rfl, fun _ => rfl⟩
    refine allFrom_cons (stepQ_yes (by kernel_rfl) ?_) ?_
    · intro a_ w_ hk_
      have h0 : a_.eval (.tmp 0) = .pointer (some ⟨g, 0, none⟩) := hk_.old 0 (by kernel_rfl)
      have hx_ := hk_.ext
      clear hk_
      refine flow_plain rfl ?_
      exact gives_move rfl ⟨Below.refl _ _, h0⟩
    exact allFrom_nil
  · intro a_ w_ hk_
    have h5 : a_.eval (.tmp 5) = (.pointer (some ⟨g, 0, none⟩)) := hk_.got 1 5 _ (by kernel_rfl) rfl rfl
    have hx_ := hk_.ext
    clear hk_
    have hR := H3.out.below hx_
    unfold gives
    have hc_ : ∀ v, a_.eval (.const v) = v := fun _ => rfl
    have hn_ : ∀ f, a_.eval (.func f) = .func (.func f) #[] #[] := fun _ => rfl
    generalize a_.eval = ρ_ at *
    go_simp
    exact (RRaw_any w_ hR 32 (by omega) hl).mono fun e w' ⟨v, h1, h2, h3, h4⟩ => ⟨v, h1, h2, h3, rg_trans (rg_below hx_) h4⟩
  intro f_ w_ hf_ ht_
  have h4 : f_ 4 = (.slice (some ⟨g3, 0, none⟩) 32 32) := (hf_ 0 4 _ (by decide) rfl rfl).elim fun _ h => h
  have h5 : f_ 5 = (.pointer (some ⟨g, 0, none⟩)) := (hf_ 1 5 _ (by decide) rfl rfl).elim fun _ h => h
  have ht := ht_ 6 _ rfl rfl
  clear ht_
  simp only [mix, List.drop_succ_cons, List.drop_zero, h4, h5]
  clear h4 h5
  clear hf_
  obtain ⟨hv, hR, hG⟩ := ht
  obtain ⟨A6, c6, h6, hc6, hm6, hrd6, hout6⟩ := hv
  have hblk24 : Blk w_ g2 52 _ := (hG.block g2 hblk23.lt (fun e => by injection e with e; omega)).trans hblk23
  have hblk34 : Blk w_ g3 52 _ := (hG.block g3 hg3' (fun e => by injection e with e; omega)).trans hblk3
  have hg0 := rg_trans (rg_below (g := g) hb03) hG
  have hsz4 := hG.size
  clear hblk23 hblk3 hb03 hG H3
  rw [show f_ (0 + 1 + 1 + 1 + 1 + 1 + 1) = .slice A6 (takeV s 32).length c6 from h6]
  clear h6
  rcases takeV32 s with h32 | h32
  · have hV : hashV s = takeV s 32 := by unfold hashV; rw [if_pos h32]
    obtain ⟨r, hr⟩ : ∃ r, r = takeV s 32 := ⟨_, rfl⟩
    rw [← hr] at h32 hrd6 hV
    rw [show (takeV s 32).length = 32 from by rw [← hr]; exact h32]
    have HV := hid hV
    clear hr hV
    obtain ⟨b, off, rfl, hbb, hd⟩ := hrd6.at_ (k := 0) (by rw [List.length_map]; omega)
    have hsrc : ∀ j v, (r.map cb)[j]? = some v → w_.cell? ((⟨b, off, none⟩ : Addr).add j) = some v := fun j v hv => by rw [add_off]; exact hd j v hv
    have hmin : (r.map cb).length = Nat.min 32 32 := by rw [List.length_map, h32]; rfl
    have hfit : 0 + (r.map cb).length ≤ (Value.agg (List.replicate 32 (cb 0)).toArray).cells.size := by
      show 0 + (r.map cb).length ≤ (List.replicate 32 (cb 0)).toArray.size
      simp [h32]
    have hput := setRow_put hblk34 (r.map cb).toArray
    have hspl := spl32 h32
    have hblk5 := hput.blk
    have hblk25 := hput.other hblk24 (by omega)
    have hR5 := hR.other hblk34 hput (by decide) hgw3
    have hg5 : w.grownBy (w_.setRow g3 (r.map cb).toArray) (some g) := ⟨hput.os.trans hg0.os, hput.tape.trans hg0.tape, hput.output.trans hg0.output, by rw [hput.size]; exact hg0.size, fun k hk hne => (hput.oth k (by omega)).trans (hg0.block k hk hne)⟩
    have HR5 := hid hR5
    have HG5 := hid hg5
    have HMIN := hid hmin
    have HFIT := hid hfit
    have HSPL := hid hspl
    clear hR5 hg5 hR hg0 hmin hfit hspl hd hrd6
    go_wp2_with (first
      | (refine wpList_copy_own rfl _ _ _ _ rfl 5 Try.underlying37 size8 g3 0 32 32 ⟨b, off, none⟩ 32 c6 rfl rfl _ 52 hblk34 (r.map cb) HMIN.out hsrc HFIT.out (one_cb r) ?_; rw [HSPL.out])
      | (refine wpList_load_agg rfl _ _ rfl _ _ rfl (r.map cb) (aggHL h32) (blk_cells hblk5) ?_)
      | (refine wpList_store_agg rfl _ _ _ rfl _ _ rfl (r.map cb).toArray rfl (aggHS h32) hblk25 (szH h32) (one_cbA r) ?_; intro w6 hput6))
    rw [splH h32] at hput6
    have hR6 := HR5.out.other hblk25 hput6 (by decide) hgw2
    have hg6 : w.grownBy w6 (some g) := ⟨hput6.os.trans HG5.out.os, hput6.tape.trans HG5.out.tape, hput6.output.trans HG5.out.output, by rw [hput6.size]; exact HG5.out.size, fun k hk hne => (hput6.oth k (by omega)).trans (HG5.out.block k hk hne)⟩
    exact bodyPost_ret (results_agg (cs := r.map cb) rfl rfl (aggHL h32) (blk_cells hput6.blk)) rfl ⟨by rw [HV.out], hR6, hg6⟩
  · have hV : hashV s = List.replicate 32 0 := by unfold hashV; rw [if_neg (by rw [h32]; decide)]
    rw [show (takeV s 32).length = 0 from by rw [h32]; rfl]
    have HV := hid hV
    have hblk5 := blk_zero hblk34
    have hblk25 := hblk24
    have hz : (List.replicate 32 (0 : UInt8)).length = 32 := List.length_replicate
    have HR5 := hid hR
    have HG5 := hid hg0
    clear hV hR hg0 hblk34 hblk24
    obtain ⟨r, hr⟩ : ∃ r, r = List.replicate 32 (0 : UInt8) := ⟨_, rfl⟩
    rw [← hr] at hblk5 hz HV
    clear hr
    go_wp2_with (first
      | (refine wpList_copy_nothing rfl _ _ _ _ rfl 5 Try.underlying37 size8 _ _ 32 32 0 c6 rfl rfl rfl ?_)
      | (refine wpList_load_agg rfl _ _ rfl _ _ rfl (r.map cb) (aggHL hz) (blk_cells hblk5) ?_)
      | (refine wpList_store_agg rfl _ _ _ rfl _ _ rfl (r.map cb).toArray rfl (aggHS hz) hblk25 (szH hz) (one_cbA r) ?_; intro w6 hput6))
    rw [splH hz] at hput6
    have hR6 := HR5.out.other hblk25 hput6 (by decide) hgw2
    have hg6 : w.grownBy w6 (some g) := ⟨hput6.os.trans HG5.out.os, hput6.tape.trans HG5.out.tape, hput6.output.trans HG5.out.output, by rw [hput6.size]; exact HG5.out.size, fun k hk hne => (hput6.oth k (by omega)).trans (HG5.out.block k hk hne)⟩
    exact bodyPost_ret (results_agg (cs := r.map cb) rfl rfl (aggHL hz) (blk_cells hput6.blk)) rfl ⟨by rw [HV.out], hR6, hg6⟩
end Go.Proofs.Ythbmmilefimpaaa
