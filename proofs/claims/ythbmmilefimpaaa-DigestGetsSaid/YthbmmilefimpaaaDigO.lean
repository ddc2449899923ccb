
/- The document's bytes of a digest, walked; DigestPuts. -/
import Derived.Test.YthbmmilefimpaaaDigN
namespace Go.Proofs.Ythbmmilefimpaaa
open Go.RowKit Go.Maps
set_option linter.unusedVariables false
section
variable (w : World) {A1 A2 : Option Addr} {c1 c2 : Nat}
set_option maxHeartbeats 400000 in
theorem refPut_big {n1 n2 : Nat} (h : 32 < n1 ∨ 32 < n2) :
    Calls Try.prog 20 #[.agg #[.slice A1 n1 c1, .slice A2 n2 c2]] w fun e w' => e = .returned (.tuple #[.string ⟨#[]⟩, .int .i64 13]) ∧ Below w.heap.size w w' := by
  by_cases h1 : 32 < n1
  · go_enter Try.func20, Try.ntmps20
    go_wp2
    go_ret2
    exact ⟨rfl, bx_alloc (Below.refl _ _) _⟩
  · have h2 : 32 < n2 := by omega
    go_enter Try.func20, Try.ntmps20
    go_wp2
    go_ret2
    exact ⟨rfl, bx_alloc (Below.refl _ _) _⟩
set_option maxRecDepth 10000 in
set_option maxHeartbeats 1000000 in
theorem refPut_any {keys : List Key} {fr : List (List UInt8)} (hok1 : ∀ k ∈ keys, kOk k) (hok2 : ∀ k ∈ fr, hOk k) (hr1 : Rd w w.heap.size A1 (keys.map kc).flatten) (hr2 : Rd w w.heap.size A2 (fr.map hc).flatten) (hl1 : keys.length ≤ 32) (hl2 : fr.length ≤ 32) :
    Calls Try.prog 20 #[.agg #[.slice A1 keys.length c1, .slice A2 fr.length c2]] w fun e w' => e = .returned (.tuple #[.string ⟨(putB keys fr).toArray⟩, .int .i64 0]) ∧ Below w.heap.size w w' := by
  have HR1 := hid hr1
  have HR2 := hid hr2
  have HO1 := hid hok1
  have HO2 := hid hok2
  clear hr1 hr2 hok1 hok2
  have hn1 : ¬ (32 : Int) < (keys.length : Int) := by omega
  have hn2 : ¬ (32 : Int) < (fr.length : Int) := by omega
  have hw1 : IntKind.u64.wrap (keys.length : Int) = (keys.length : Int) := by
    simp only [IntKind.wrap, IntKind.bits, IntKind.signed]
    simp
    omega
  have hw2 : IntKind.u64.wrap (fr.length : Int) = (fr.length : Int) := by
    simp only [IntKind.wrap, IntKind.bits, IntKind.signed]
    simp
    omega
  go_enter Try.func20, Try.ntmps20
  go_wp2_with fail
  clear hn1 hn2
  have hg := Blk.new w tDr #[.slice A1 keys.length c1, .slice A2 fr.length c2]
  have hb1 : Below w.heap.size w (w.alloc (.cells #[.slice A1 keys.length c1, .slice A2 fr.length c2] tDr)) := bx_alloc (Below.refl _ _) _
  obtain ⟨gd, hgd⟩ : ∃ gd, gd = w.heap.size := ⟨_, rfl⟩
  rw [← hgd] at hg
  rw [← hgd]
  clear hgd
  generalize w.alloc (.cells #[.slice A1 keys.length c1, .slice A2 fr.length c2] tDr) = w1 at *
  refine (refNum_any w1 keys.length (by omega) 1).mono ?_
  rintro e w2 ⟨rfl, hb2⟩
  rw [numW1]
  have hg2 := hg.below hb2 hg.lt
  have hb02 := bx_trans hb1 hb2
  clear hg hb1 hb2
  go_wp2
  go_loopw [4, 5] (fun v j wr => ∃ (i : Nat), i ≤ keys.length ∧ v = .string ⟨(numL keys.length 1 ++ keysB (keys.take i)).toArray⟩ ∧ j = .int .i64 i ∧ Blk wr gd tDr #[.slice A1 keys.length c1, .slice A2 fr.length c2] ∧ Below w.heap.size w wr) (fun _ j _ => keys.length - (intOf j).toNat)
  case atStart => exact ⟨0, by omega, by rw [List.take_zero, show keysB [] = [] from rfl, List.append_nil], rfl, hg2, hb02⟩
  case round =>
    obtain ⟨i, hi, rfl, rfl, hblk, hbr⟩ := hrel
    clear hg2 hb02
    rename World => wo
    have cd0 := hblk.cell 0
    by_cases hlt : i < keys.length
    · obtain ⟨b1, off1, rfl, hbb1, hd1⟩ := rd_item (i := i) (HR1.out.below hbr) (mapLenK HO1.out) (by decide) (by rw [List.length_map]; exact hlt)
      rw [List.getElem_map] at hd1
      have hx := HO1.out _ (List.getElem_mem hlt)
      have htk : keys.take (i + 1) = keys.take i ++ [keys[i]] := List.take_succ_eq_append_getElem hlt
      have hkl : (numL keys.length 1 ++ keysB (keys.take i)).length ≤ 2000 := by rw [List.length_append, numL_len', keysB_len (fun k hk => HO1.out k (List.mem_of_mem_take hk)), List.length_take]; omega
      have hpp : numL keys.length 1 ++ keysB (keys.take (i + 1)) = numL keys.length 1 ++ keysB (keys.take i) ++ (numL keys[i].1 8 ++ keys[i].2) := by rw [htk, keysB_snoc, keyB]; simp only [List.append_assoc]
      have HPP := hid hpp
      clear htk hpp
      generalize keys[i] = x at *
      generalize hpl : numL keys.length 1 ++ keysB (keys.take i) = pl at *
      have HPL := hid hpl
      have hx2 : hOk x.2 := hx.2
      have hx3 : x.2.length = 32 := hx.2
      have HSA := hid (show _ ∧ _ ∧ ¬ 9223372036854775807 < (numL x.1 8).length + x.2.length ∧ ¬ 9223372036854775807 < pl.length + ((numL x.1 8).length + x.2.length) from ⟨str_app (numL x.1 8) x.2, str_app pl (numL x.1 8 ++ x.2), by rw [numL_len', hx3]; omega, by rw [numL_len', hx3]; omega⟩)
      have hbl : b1 < wo.heap.size := Nat.lt_of_lt_of_le hbb1 hbr.size
      have hd0' : ∀ w_, Below wo.heap.size wo w_ → w_.cell? ⟨b1, off1 + i * 33, none⟩ = some (.int .u64 (x.1 : Int)) := fun w_ hb => (hb.cell (p := ⟨b1, off1 + i * 33, none⟩) hbl).trans (hd1 0 _ rfl)
      have hd1' : ∀ w_, Below wo.heap.size wo w_ → ∀ j v, (hc x.2)[j]? = some v → w_.cell? ⟨b1, off1 + i * 33 + 1 + j, none⟩ = some v := fun w_ hb j v hv => by
        have h1 := hd1 (j + 1) v hv
        rw [show off1 + i * 33 + (j + 1) = off1 + i * 33 + 1 + j by omega] at h1
        exact (hb.cell (p := ⟨b1, off1 + i * 33 + 1 + j, none⟩) hbl).trans h1
      have HD0 := hid hd0'
      have HD1 := hid hd1'
      clear hd0' hd1'
      clear hpl hd1 hkl hx3
      go_wp2
      refine wp_flow (by kernel_rfl) [0, 0, 2, 0, 14, 30, 62, 126, 0, 256, 0, 1792, 3840, 7936, 16382, 32766, 65535, 131071] 17 [false, false, false, false, false, false, false, false, false, false, false, false, false, false, false, false, false, false, false, false, false, false, false, false, false, false, false, false, false, true, true, true, true, true, true, true, true, true, true, true, true, true, true, true, true, true] (by kernel_rfl) (by decide) (by kernel_rfl) [FP.eq (.string ⟨pl.toArray⟩), FP.eq (.pointer (some ⟨gd, 0, none⟩)), FP.eq (.slice (some ⟨b1, off1, none⟩) keys.length c1), FP.eq (.int .i64 (i : Int)), FP.eq (.pointer (some ⟨b1, off1 + i * 33, none⟩)), FP.eq (.pointer (some ⟨b1, off1 + i * 33, none⟩)), FP.eq (.int .u64 (x.1 : Int)), FP.eq (.string ⟨(numL x.1 8).toArray⟩), FP.eq (.pointer (some ⟨gd, 0, none⟩)), FP.eq (.slice (some ⟨b1, off1, none⟩) keys.length c1), FP.eq (.int .i64 (i : Int)), FP.eq (.pointer (some ⟨b1, off1 + i * 33, none⟩)), FP.eq (.pointer (some ⟨b1, off1 + i * 33 + 1, none⟩)), FP.eq (.agg (hc x.2).toArray), FP.eq (.string ⟨x.2.toArray⟩), FP.eq (.string ⟨(numL x.1 8 ++ x.2).toArray⟩), FP.eq (.string ⟨(pl ++ (numL x.1 8 ++ x.2)).toArray⟩)] ?_ ?_
      · refine allFrom_cons ?_ ?_
        · intro a_ w_ hk_
          have h4 : a_.eval (.tmp 4) = .string ⟨pl.toArray⟩ := hk_.old 4 (by kernel_rfl)
          have hx_ := hk_.ext
          clear hk_
          refine flow_plain rfl ?_
          exact gives_move rfl ⟨Below.refl _ _, h4⟩
        refine allFrom_cons ?_ ?_
        · intro a_ w_ hk_
          have h1 : a_.eval (.tmp 1) = .pointer (some ⟨gd, 0, none⟩) := hk_.old 1 (by kernel_rfl)
          have hx_ := hk_.ext
          clear hk_
          refine flow_plain rfl ?_
          unfold gives
          have hc_ : ∀ v, a_.eval (.const v) = v := fun _ => rfl
          have hn_ : ∀ f, a_.eval (.func f) = .func (.func f) #[] #[] := fun _ => rfl
          generalize a_.eval = ρ_ at *
          go_simp
          exact ⟨Below.refl _ _, rfl⟩
        refine allFrom_cons ?_ ?_
        · intro a_ w_ hk_
          have h30 : a_.eval (.tmp 30) = (.pointer (some ⟨gd, 0, none⟩)) := hk_.got 1 30 _ (by kernel_rfl) rfl rfl
          have hx_ := hk_.ext
          clear hk_
          refine flow_plain rfl ?_
          unfold gives
          have hc_ : ∀ v, a_.eval (.const v) = v := fun _ => rfl
          have hn_ : ∀ f, a_.eval (.func f) = .func (.func f) #[] #[] := fun _ => rfl
          have hcell := (hblk.below hx_ hblk.lt).cell 0
          generalize a_.eval = ρ_ at *
          go_simp
          exact ⟨Below.refl _ _, rfl⟩
        refine allFrom_cons ?_ ?_
        · intro a_ w_ hk_
          have h5 : a_.eval (.tmp 5) = .int .i64 (i : Int) := hk_.old 5 (by kernel_rfl)
          have hx_ := hk_.ext
          clear hk_
          refine flow_plain rfl ?_
          exact gives_move rfl ⟨Below.refl _ _, h5⟩
        refine allFrom_cons ?_ ?_
        · intro a_ w_ hk_
          have h31 : a_.eval (.tmp 31) = (.slice (some ⟨b1, off1, none⟩) keys.length c1) := hk_.got 2 31 _ (by kernel_rfl) rfl rfl
          have h32 : a_.eval (.tmp 32) = (.int .i64 (i : Int)) := hk_.got 3 32 _ (by kernel_rfl) rfl rfl
          have hx_ := hk_.ext
          clear hk_
          refine flow_plain rfl ?_
          unfold gives
          have hc_ : ∀ v, a_.eval (.const v) = v := fun _ => rfl
          have hn_ : ∀ f, a_.eval (.func f) = .func (.func f) #[] #[] := fun _ => rfl
          generalize a_.eval = ρ_ at *
          go_simp
          exact ⟨Below.refl _ _, rfl⟩
        refine allFrom_cons ?_ ?_
        · intro a_ w_ hk_
          have h33 : a_.eval (.tmp 33) = (.pointer (some ⟨b1, off1 + i * 33, none⟩)) := hk_.got 4 33 _ (by kernel_rfl) rfl rfl
          have hx_ := hk_.ext
          clear hk_
          refine flow_plain rfl ?_
          unfold gives
          have hc_ : ∀ v, a_.eval (.const v) = v := fun _ => rfl
          have hn_ : ∀ f, a_.eval (.func f) = .func (.func f) #[] #[] := fun _ => rfl
          generalize a_.eval = ρ_ at *
          go_simp
          exact ⟨Below.refl _ _, rfl⟩
        refine allFrom_cons ?_ ?_
        · intro a_ w_ hk_
          have h34 : a_.eval (.tmp 34) = (.pointer (some ⟨b1, off1 + i * 33, none⟩)) := hk_.got 5 34 _ (by kernel_rfl) rfl rfl
          have hx_ := hk_.ext
          clear hk_
          refine flow_plain rfl ?_
          unfold gives
          have hc_ : ∀ v, a_.eval (.const v) = v := fun _ => rfl
          have hn_ : ∀ f, a_.eval (.func f) = .func (.func f) #[] #[] := fun _ => rfl
          have hcell := HD0.out _ hx_
          generalize a_.eval = ρ_ at *
          go_simp
          exact ⟨Below.refl _ _, rfl⟩
        refine allFrom_cons ?_ ?_
        · intro a_ w_ hk_
          have h35 : a_.eval (.tmp 35) = (.int .u64 (x.1 : Int)) := hk_.got 6 35 _ (by kernel_rfl) rfl rfl
          have hx_ := hk_.ext
          clear hk_
          refine flow_plain rfl ?_
          unfold gives
          have hc_ : ∀ v, a_.eval (.const v) = v := fun _ => rfl
          have hn_ : ∀ f, a_.eval (.func f) = .func (.func f) #[] #[] := fun _ => rfl
          generalize a_.eval = ρ_ at *
          go_simp
          exact (refNum_any w_ x.1 hx.1 8).mono fun e w' hh => ⟨_, hh.1, hh.2, by rw [numW8]; rfl⟩
        refine allFrom_cons ?_ ?_
        · intro a_ w_ hk_
          have h1 : a_.eval (.tmp 1) = .pointer (some ⟨gd, 0, none⟩) := hk_.old 1 (by kernel_rfl)
          have hx_ := hk_.ext
          clear hk_
          refine flow_plain rfl ?_
          unfold gives
          have hc_ : ∀ v, a_.eval (.const v) = v := fun _ => rfl
          have hn_ : ∀ f, a_.eval (.func f) = .func (.func f) #[] #[] := fun _ => rfl
          generalize a_.eval = ρ_ at *
          go_simp
          exact ⟨Below.refl _ _, rfl⟩
        refine allFrom_cons ?_ ?_
        · intro a_ w_ hk_
          have h37 : a_.eval (.tmp 37) = (.pointer (some ⟨gd, 0, none⟩)) := hk_.got 8 37 _ (by kernel_rfl) rfl rfl
          have hx_ := hk_.ext
          clear hk_
          refine flow_plain rfl ?_
          unfold gives
          have hc_ : ∀ v, a_.eval (.const v) = v := fun _ => rfl
          have hn_ : ∀ f, a_.eval (.func f) = .func (.func f) #[] #[] := fun _ => rfl
          have hcell := (hblk.below hx_ hblk.lt).cell 0
          generalize a_.eval = ρ_ at *
          go_simp
          exact ⟨Below.refl _ _, rfl⟩
        refine allFrom_cons ?_ ?_
        · intro a_ w_ hk_
          have h5 : a_.eval (.tmp 5) = .int .i64 (i : Int) := hk_.old 5 (by kernel_rfl)
          have hx_ := hk_.ext
          clear hk_
          refine flow_plain rfl ?_
          exact gives_move rfl ⟨Below.refl _ _, h5⟩
        refine allFrom_cons ?_ ?_
        · intro a_ w_ hk_
          have h38 : a_.eval (.tmp 38) = (.slice (some ⟨b1, off1, none⟩) keys.length c1) := hk_.got 9 38 _ (by kernel_rfl) rfl rfl
          have h39 : a_.eval (.tmp 39) = (.int .i64 (i : Int)) := hk_.got 10 39 _ (by kernel_rfl) rfl rfl
          have hx_ := hk_.ext
          clear hk_
          refine flow_plain rfl ?_
          unfold gives
          have hc_ : ∀ v, a_.eval (.const v) = v := fun _ => rfl
          have hn_ : ∀ f, a_.eval (.func f) = .func (.func f) #[] #[] := fun _ => rfl
          generalize a_.eval = ρ_ at *
          go_simp
          exact ⟨Below.refl _ _, rfl⟩
        refine allFrom_cons ?_ ?_
        · intro a_ w_ hk_
          have h40 : a_.eval (.tmp 40) = (.pointer (some ⟨b1, off1 + i * 33, none⟩)) := hk_.got 11 40 _ (by kernel_rfl) rfl rfl
          have hx_ := hk_.ext
          clear hk_
          refine flow_plain rfl ?_
          unfold gives
          have hc_ : ∀ v, a_.eval (.const v) = v := fun _ => rfl
          have hn_ : ∀ f, a_.eval (.func f) = .func (.func f) #[] #[] := fun _ => rfl
          generalize a_.eval = ρ_ at *
          go_simp
          exact ⟨Below.refl _ _, rfl⟩
        refine allFrom_cons ?_ ?_
        · intro a_ w_ hk_
          have h41 : a_.eval (.tmp 41) = (.pointer (some ⟨b1, off1 + i * 33 + 1, none⟩)) := hk_.got 12 41 _ (by kernel_rfl) rfl rfl
          have hx_ := hk_.ext
          clear hk_
          refine flow_plain rfl ?_
          exact gives_loadA rfl h41 (aggHc hx2) (HD1.out _ hx_) ⟨Below.refl _ _, rfl⟩
        refine allFrom_cons ?_ ?_
        · intro a_ w_ hk_
          have h42 : a_.eval (.tmp 42) = (.agg (hc x.2).toArray) := hk_.got 13 42 _ (by kernel_rfl) rfl rfl
          have hx_ := hk_.ext
          clear hk_
          refine flow_plain rfl ?_
          unfold gives
          have hc_ : ∀ v, a_.eval (.const v) = v := fun _ => rfl
          have hn_ : ∀ f, a_.eval (.func f) = .func (.func f) #[] #[] := fun _ => rfl
          generalize a_.eval = ρ_ at *
          go_simp
          exact (refRaw2_any w_ hx2).mono fun e w' hh => ⟨_, hh.1, hh.2, rfl⟩
        refine allFrom_cons ?_ ?_
        · intro a_ w_ hk_
          have h36 : a_.eval (.tmp 36) = (.string ⟨(numL x.1 8).toArray⟩) := hk_.got 7 36 _ (by kernel_rfl) rfl rfl
          have h43 : a_.eval (.tmp 43) = (.string ⟨x.2.toArray⟩) := hk_.got 14 43 _ (by kernel_rfl) rfl rfl
          have hx_ := hk_.ext
          clear hk_
          refine flow_plain rfl ?_
          unfold gives
          have hc_ : ∀ v, a_.eval (.const v) = v := fun _ => rfl
          have hn_ : ∀ f, a_.eval (.func f) = .func (.func f) #[] #[] := fun _ => rfl
          have hsa := HSA.out.1
          have hno := HSA.out.2.2.1
          generalize a_.eval = ρ_ at *
          go_simp
          exact ⟨Below.refl _ _, rfl⟩
        refine allFrom_cons ?_ ?_
        · intro a_ w_ hk_
          have h29 : a_.eval (.tmp 29) = (.string ⟨pl.toArray⟩) := hk_.got 0 29 _ (by kernel_rfl) rfl rfl
          have h44 : a_.eval (.tmp 44) = (.string ⟨(numL x.1 8 ++ x.2).toArray⟩) := hk_.got 15 44 _ (by kernel_rfl) rfl rfl
          have hx_ := hk_.ext
          clear hk_
          refine flow_plain rfl ?_
          unfold gives
          have hc_ : ∀ v, a_.eval (.const v) = v := fun _ => rfl
          have hn_ : ∀ f, a_.eval (.func f) = .func (.func f) #[] #[] := fun _ => rfl
          have hsa := HSA.out.2.1
          have hno := HSA.out.2.2.2
          generalize a_.eval = ρ_ at *
          go_simp
          exact ⟨Below.refl _ _, rfl⟩
        exact allFrom_nil
      intro f_ w_ hx_ hf_
      have h29 : f_ 29 = (.string ⟨pl.toArray⟩) := hf_ 0 29 _ (by decide) rfl rfl
      have h30 : f_ 30 = (.pointer (some ⟨gd, 0, none⟩)) := hf_ 1 30 _ (by decide) rfl rfl
      have h31 : f_ 31 = (.slice (some ⟨b1, off1, none⟩) keys.length c1) := hf_ 2 31 _ (by decide) rfl rfl
      have h32 : f_ 32 = (.int .i64 (i : Int)) := hf_ 3 32 _ (by decide) rfl rfl
      have h33 : f_ 33 = (.pointer (some ⟨b1, off1 + i * 33, none⟩)) := hf_ 4 33 _ (by decide) rfl rfl
      have h34 : f_ 34 = (.pointer (some ⟨b1, off1 + i * 33, none⟩)) := hf_ 5 34 _ (by decide) rfl rfl
      have h35 : f_ 35 = (.int .u64 (x.1 : Int)) := hf_ 6 35 _ (by decide) rfl rfl
      have h36 : f_ 36 = (.string ⟨(numL x.1 8).toArray⟩) := hf_ 7 36 _ (by decide) rfl rfl
      have h37 : f_ 37 = (.pointer (some ⟨gd, 0, none⟩)) := hf_ 8 37 _ (by decide) rfl rfl
      have h38 : f_ 38 = (.slice (some ⟨b1, off1, none⟩) keys.length c1) := hf_ 9 38 _ (by decide) rfl rfl
      have h39 : f_ 39 = (.int .i64 (i : Int)) := hf_ 10 39 _ (by decide) rfl rfl
      have h40 : f_ 40 = (.pointer (some ⟨b1, off1 + i * 33, none⟩)) := hf_ 11 40 _ (by decide) rfl rfl
      have h41 : f_ 41 = (.pointer (some ⟨b1, off1 + i * 33 + 1, none⟩)) := hf_ 12 41 _ (by decide) rfl rfl
      have h42 : f_ 42 = (.agg (hc x.2).toArray) := hf_ 13 42 _ (by decide) rfl rfl
      have h43 : f_ 43 = (.string ⟨x.2.toArray⟩) := hf_ 14 43 _ (by decide) rfl rfl
      have h44 : f_ 44 = (.string ⟨(numL x.1 8 ++ x.2).toArray⟩) := hf_ 15 44 _ (by decide) rfl rfl
      have h45 : f_ 45 = (.string ⟨(pl ++ (numL x.1 8 ++ x.2)).toArray⟩) := hf_ 16 45 _ (by decide) rfl rfl
      simp only [mix, List.drop_succ_cons, List.drop_zero, h29, h30, h31, h32, h33, h34, h35, h36, h37, h38, h39, h40, h41, h42, h43, h44, h45]
      clear h29 h30 h31 h32 h33 h34 h35 h36 h37 h38 h39 h40 h41 h42 h43 h44 h45
      clear hf_
      have hblk9 := hblk.below hx_ hblk.lt
      have hb9 := bx_trans hbr hx_
      go_wp2
      go_roundw
      case rel => exact ⟨i + 1, by omega, by rw [HPP.out], by go_num, hblk9, hb9⟩
      case measure => simp [intOf]; omega
    · obtain rfl : i = keys.length := by omega
      rw [List.take_length] at *
      have cd1 := hblk.cell 1
      have hkl : (numL keys.length 1 ++ keysB keys).length ≤ 2000 := by rw [List.length_append, numL_len', keysB_len HO1.out]; omega
      obtain ⟨pl, hpl⟩ : ∃ pl, pl = numL keys.length 1 ++ keysB keys := ⟨_, rfl⟩
      rw [← hpl] at hkl ⊢
      have HPL := hid hpl
      have HKL := hid hkl
      have HSA := hid (show _ ∧ ¬ 9223372036854775807 < pl.length + (numL fr.length 1).length from ⟨str_app pl (numL fr.length 1), by rw [numL_len']; omega⟩)
      clear hkl hpl
      go_wp2_with fail
      clear cd0 cd1
      refine (refNum_any wo fr.length (by omega) 1).mono ?_
      rintro e w3 ⟨rfl, hb3⟩
      rw [numW1]
      have hg3 := hblk.below hb3 hblk.lt
      have hb03 := bx_trans hbr hb3
      have hsa := HSA.out.1
      have hno := HSA.out.2
      go_wp2
      clear hsa hno
      obtain ⟨pl2, hpl2⟩ : ∃ pl2, pl2 = pl ++ numL fr.length 1 := ⟨_, rfl⟩
      have hkl2 : pl2.length ≤ 2001 := by rw [hpl2, List.length_append, numL_len']; have := HKL.out; omega
      rw [← hpl2]
      have HPL2 := hid hpl2
      have HKL2 := hid hkl2
      clear hpl2 hkl2
      go_loopw [4, 6] (fun v j wr => ∃ (i : Nat), i ≤ fr.length ∧ v = .string ⟨(pl2 ++ (fr.take i).flatten).toArray⟩ ∧ j = .int .i64 i ∧ Blk wr gd tDr #[.slice A1 keys.length c1, .slice A2 fr.length c2] ∧ Below w.heap.size w wr) (fun _ j _ => fr.length - (intOf j).toNat)
      case atStart => exact ⟨0, by omega, by simp, rfl, hg3, hb03⟩
      case round =>
        obtain ⟨i, hi, rfl, rfl, hblk, hbr⟩ := hrel
        clear hg3 hb03
        rename World => wp
        have cd1 := hblk.cell 1
        by_cases hlt : i < fr.length
        · obtain ⟨b1, off1, rfl, hbb1, hd1⟩ := rd_item (i := i) (HR2.out.below hbr) (mapLenH HO2.out) (by decide) (by rw [List.length_map]; exact hlt)
          rw [List.getElem_map] at hd1
          have hx := HO2.out _ (List.getElem_mem hlt)
          have htk : fr.take (i + 1) = fr.take i ++ [fr[i]] := List.take_succ_eq_append_getElem hlt
          have hkl : (pl2 ++ (fr.take i).flatten).length ≤ 4000 := by rw [List.length_append, hashesB_len (fun k hk => HO2.out k (List.mem_of_mem_take hk)), List.length_take]; have := HKL2.out; omega
          have hpp : pl2 ++ (fr.take (i + 1)).flatten = pl2 ++ (fr.take i).flatten ++ fr[i] := by rw [htk, List.flatten_append]; simp
          have HPP := hid hpp
          clear htk hpp
          generalize fr[i] = x at *
          generalize hpl3 : pl2 ++ (fr.take i).flatten = pl3 at *
          have HPL3 := hid hpl3
          have hx3 : x.length = 32 := hx
          have HSB := hid (show _ ∧ ¬ 9223372036854775807 < pl3.length + x.length from ⟨str_app pl3 x, by omega⟩)
          clear hpl3 hkl hx3
          go_wp2_with (with_reducible refine wpAt ?_; refine wpList_load_agg rfl _ _ rfl _ _ rfl (hc x) (aggHc hx) hd1 ?_; simp only [Act.put, List.setIfInBounds_toArray, List.set_cons_succ, List.set_cons_zero])
          clear cd1 hd1
          refine (refRaw2_any wp hx).mono ?_
          rintro e w5 ⟨rfl, hb5⟩
          have hsa := HSB.out.1
          have hno := HSB.out.2
          have hblk5 := hblk.below hb5 hblk.lt
          have hb05 := bx_trans hbr hb5
          go_wp2
          go_roundw
          case rel => exact ⟨i + 1, by omega, by rw [HPP.out], by go_num, hblk5, hb05⟩
          case measure => simp [intOf]; omega
        · obtain rfl : i = fr.length := by omega
          have hfin : pl2 ++ (fr.take fr.length).flatten = putB keys fr := by rw [List.take_length, HPL2.out, HPL.out]; rfl
          rw [hfin]
          clear hfin
          go_wp2
          go_ret2
          exact ⟨rfl, hbr⟩
end
end Go.Proofs.Ythbmmilefimpaaa
