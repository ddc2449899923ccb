/- OctetPuts: its walk. -/
import Derived.Test.YtnlgogladafcdaaOctN
namespace Go.Proofs.Ytnlgogladafcdaa
open Go.RowKit
set_option linter.unusedVariables false
set_option maxRecDepth 100000 in
set_option maxHeartbeats 1000000 in
theorem OctetPuts_walk (w : World) (x0 : Int) (hx0 : (Lit.int .u64 x0).wf = true) (n : Int) (hn : (Lit.int .i64 n).wf = true)
    (A0 : Option Addr) (c0 : Nat) (l0 : List UInt8) (hc0 : l0.length ≤ c0) (hm0 : c0 ≤ maxLen) (hr0 : Rd w w.heap.size A0 (l0.map cb)) (h : List UInt8) (hh : h.length = 32) :
    Calls Try.prog 3 #[.int .u64 x0, .int .i64 n, .slice A0 l0.length c0, .agg (h.map cb).toArray] w fun e w' => e = .returned (.bool true) ∧ Below w.heap.size w w' := by
  have hmm := hm0
  unfold maxLen at hm0
  have hxb := bounds_u64 hx0
  have hnb := bounds_i64 hn
  obtain ⟨x, rfl⟩ := Int.eq_ofNat_of_zero_le (show 0 ≤ x0 by omega)
  clear hx0 hn
  have HR := hid hr0
  clear hr0
  have hbx := Blk.new w 25 (h.map cb).toArray
  have hb0 : Below w.heap.size w (w.alloc (.cells (h.map cb).toArray 25)) := bx_alloc (Below.refl _ _) _
  have hgs : w.heap.size < (w.alloc (.cells (h.map cb).toArray 25)).heap.size := by simp
  go_enter Try.func3, Try.ntmps3
  go_wp2_with fail
  generalize hw0 : w.alloc (.cells (h.map cb).toArray 25) = w0 at *
  obtain ⟨gh, hgh⟩ : ∃ gh, gh = w.heap.size := ⟨_, rfl⟩
  have hgw : w.heap.size ≤ gh := by omega
  rw [← hgh] at hbx hgs
  simp only [← hgh]
  clear hw0
  refine (awake_any w0).mono ?_
  rintro e w1 ⟨rfl, hb1⟩
  have hb01 := bx_trans hb0 hb1
  by_cases hs0 : 300 < l0.length
  · go_wp2
    go_ret
    exact ⟨rfl, hb01⟩
  have hbx1 := hbx.below hb1 hgs
  clear hbx hb0 hb1 hgs hgh
  go_wp2_with fail
  refine (NewWriter_any w1).mono ?_
  rintro e w2 ⟨g, rfl, hW2, hb2⟩
  have hlN : (numW x n).length ≤ 8 := by
    unfold numW
    split
    · rename_i h
      simp only [mayB, Bool.and_eq_true, decide_eq_true_eq] at h
      rw [numL_length]; omega
    · simp
  have hlB := bytesW_len (b := l0) (by omega)
  have HLN := hid hlN
  have HLB := hid hlB
  clear hlN hlB
  go_wp2_with fail
  refine (WNum_any w2 hW2 hb2.size x n (by simp)).mono ?_
  rintro e w3 ⟨rfl, A3, c3, hG3⟩
  rw [List.nil_append] at hG3
  have hb3 := hb2.trans hG3.below
  have hW3 := hG3.isW
  have hr3 := HR.out.below (bx_trans hb01 hb3)
  clear hG3 hW2 hb2
  go_wp2_with fail
  refine (WBytes_any w3 hW3 hb3.size hr3 hc0 hmm (sep_rd hW3 hb01.size hr3) (by have := HLN.out; omega)).mono ?_
  rintro e w4 ⟨rfl, A4, c4, hG4⟩
  have hb4 := hb3.trans hG4.below
  have hW4 := hG4.isW
  have hr4 := HR.out.below (bx_trans hb01 hb4)
  clear hG4 hW3 hb3 hr3
  go_wp2_with fail
  refine (WRaw_any w4 hW4 hr4 hb4.size (by have := HLN.out; have := HLB.out; rw [List.length_append]; omega)).mono ?_
  rintro e w5 ⟨rfl, A5, c5, hG5⟩
  have hb5 := hb4.trans hG5.below
  have hW5 := hG5.isW
  have hbx5 := hbx1.below hb5 hbx1.lt
  clear hG5 hW4 hb4 hr4
  go_wp2_with (refine wpList_load_agg rfl _ _ rfl _ _ rfl (h.map cb) (aggHL hh) (blk_cells hbx5) ?_)
  refine (WHash_any w5 hW5 hb5.size hh (by have := HLN.out; have := HLB.out; rw [List.length_append, List.length_append]; omega)).mono ?_
  rintro e w6 ⟨rfl, A6, c6, hG6⟩
  have hb6 := hb5.trans hG6.below
  have hW6 := hG6.isW
  have hbx6 := hbx1.below hb6 hbx1.lt
  clear hG6 hW5 hb5 hbx5
  have hbg : gh < w1.heap.size := hbx1.lt
  obtain ⟨all, hall⟩ : ∃ all, all = numW x n ++ bytesW l0 ++ l0 ++ h := ⟨_, rfl⟩
  rw [← hall] at hW6
  have hal : all.length ≤ 1000 := by
    have := HLN.out
    have := HLB.out
    rw [hall, List.length_append, List.length_append, List.length_append]
    omega
  have HALL := hid hall
  clear hall
  go_wp2
  go_loopw [11, 12] (fun s j wr => ∃ (i : Nat), i ≤ 32 ∧ s = .string ⟨(h.take i).toArray⟩ ∧ j = .int .i64 i ∧ Below w6.heap.size w6 wr) (fun _ j _ => 32 - (intOf j).toNat)
  case atStart => exact ⟨0, by omega, rfl, rfl, Below.refl _ _⟩
  case round =>
    obtain ⟨i, hi, rfl, rfl, hbr⟩ := hrel
    by_cases hlt : i < 32
    · have hbxr := hbx6.below hbr hbx6.lt
      have hil : i < h.length := by omega
      have hcell : wr.cell? ⟨gh, i, none⟩ = some (.int .u8 (h[i].toNat : Int)) := (cell_of_row wr gh i _ _ _ hbxr).trans (by simp [cb, hil])
      have htk : h.take (i + 1) = h.take i ++ [h[i]] := by rw [List.take_succ_eq_append_getElem hil]
      have hls := lit1_str wr h[i]
      have hsa := str_app (h.take i) [h[i]]
      have htl : (h.take i).length = i := by rw [List.length_take]; omega
      have hno : ¬ 9223372036854775807 < (h.take i).length + 1 := by omega
      have HTK := hid htk
      clear htk htl hbxr hW6 hbx6 hb6 hbx1 hb01
      generalize h[i] = c at *
      have hcl := c.toNat_lt
      go_wp2
      go_roundw
      case rel => exact ⟨i + 1, by omega, by rw [HTK.out], by go_num, bx_alloc hbr _⟩
      case measure => simp [intOf]; omega
    · have hi32 : i = 32 := by omega
      subst hi32
      rw [show h.take 32 = h from List.take_of_length_le (by omega)]
      have hWr := hW6.below hbr
      have hb0r := bx_trans hb01 (hb6.trans (hbr.mono hb6.size))
      clear hbr hb6 hW6 hbx6 hbx1 hb01 hlt hi
      go_wp2_with fail
      refine (WNum_nil wr _ _).mono ?_
      rintro e w7 ⟨rfl, rfl⟩
      go_wp2_with fail
      refine (WBytes_nil wr (by omega) hc0 hmm).mono ?_
      rintro e w7 ⟨rfl, rfl⟩
      go_wp2_with fail
      have hl300 : l0.length ≤ 300 := by omega
      obtain ⟨p1, hp1⟩ : ∃ p1, p1 = numW x n ++ bytesW l0 := ⟨_, rfl⟩
      obtain ⟨p2, hp2⟩ : ∃ p2, p2 = p1 ++ l0 := ⟨_, rfl⟩
      have hal2 : all = p2 ++ h := by rw [HALL.out, hp2, hp1]
      have hsa1 := str_app (numW x n) (bytesW l0)
      have hsa2 := str_app p1 l0
      have hsa3 := str_app p2 h
      rw [← hp1] at hsa1
      rw [← hp2] at hsa2
      rw [← hal2] at hsa3
      have hno1 : ¬ 9223372036854775807 < (numW x n).length + (bytesW l0).length := by have := HLN.out; have := HLB.out; omega
      have hno2 : ¬ 9223372036854775807 < p1.length + l0.length := by rw [hp1, List.length_append]; have := HLN.out; have := HLB.out; omega
      have hno3 : ¬ 9223372036854775807 < p2.length + 32 := by rw [hp2, hp1, List.length_append, List.length_append]; have := HLN.out; have := HLB.out; omega
      have HSA1 := hid hsa1
      have HSA2 := hid hsa2
      have HSA3 := hid hsa3
      clear hp1 hp2 hal2 hsa1 hsa2 hsa3
      refine wp_flow (by kernel_rfl) [0, 1, 3, 0, 0, 27, 0, 64, 251, 507, 0, 1024, 4091, 0, 16379, 32767, 65535, 131071, 262143, 524287, 1048575, 2097151, 4194303] 15 [false, false, false, false, false, false, false, false, false, false, false, false, false, false, false, false, false, false, false, false, false, false, false, false, false, false, false, false, false, false, false, false, false, false, false, false, false, false, false, false, false, false, false, false, false, false, false, false, false, false, false, false, true, true, true, true, true, true, true, true, true, true, true, true, true, true, true, false, false, false, false, false, false, false] (by kernel_rfl) (by decide) (by kernel_rfl) [FP.eq (.pointer (some ⟨g, 0, none⟩)), FP.bytes all, FP.eq (.string ⟨all.toArray⟩), FP.eq (.int .u64 (x : Int)), FP.eq (.int .i64 n), FP.eq (.string ⟨(numW x n).toArray⟩), FP.eq (.slice A0 l0.length c0), FP.eq (.string ⟨l0.toArray⟩), FP.eq (.string ⟨(bytesW l0).toArray⟩), FP.eq (.string ⟨p1.toArray⟩), FP.eq (.slice A0 l0.length c0), FP.eq (.string ⟨l0.toArray⟩), FP.eq (.string ⟨p2.toArray⟩), FP.eq (.string ⟨h.toArray⟩), FP.eq (.string ⟨all.toArray⟩)] ?_ ?_
      · refine allFrom_cons ?_ ?_
        · intro a_ w_ hk_
          have h10 : a_.eval (.tmp 10) = .pointer (some ⟨g, 0, none⟩) := hk_.old 10 (by kernel_rfl)
          have hx_ := hk_.ext
          clear hk_
          refine flow_plain rfl ?_
          exact gives_move rfl ⟨Below.refl _ _, h10⟩
        refine allFrom_cons ?_ ?_
        · intro a_ w_ hk_
          have h52 : a_.eval (.tmp 52) = (.pointer (some ⟨g, 0, none⟩)) := hk_.got 0 52 _ (by kernel_rfl) rfl rfl
          have hx_ := hk_.ext
          clear hk_
          refine flow_plain rfl ?_
          unfold gives
          have hc_ : ∀ v, a_.eval (.const v) = v := fun _ => rfl
          have hn_ : ∀ f, a_.eval (.func f) = .func (.func f) #[] #[] := fun _ => rfl
          generalize a_.eval = ρ_ at *
          go_simp
          refine (Out_any w_ (hWr.below hx_) (by omega)).mono fun e w' hh => ?_
          obtain ⟨v, e1, hown, hb⟩ := hh
          obtain ⟨A, c, e2, h1, _, h2, _⟩ := own_slO hown
          exact ⟨v, e1, hb, A, c, e2, h1, h2⟩
        refine allFrom_cons ?_ ?_
        · intro a_ w_ hk_
          have h53 : (FP.bytes all).p (a_.eval (.tmp 53)) w_ := hk_.got 1 53 _ (by kernel_rfl) rfl rfl
          have hx_ := hk_.ext
          clear hk_
          refine flow_plain rfl ?_
          unfold gives
          have hc_ : ∀ v, a_.eval (.const v) = v := fun _ => rfl
          have hn_ : ∀ f, a_.eval (.func f) = .func (.func f) #[] #[] := fun _ => rfl
          obtain ⟨A53, c53, h53, m53, r53⟩ := h53
          have hcs := conv_str (P := Try.prog) (src := 23) (dst := 9) Try.underlying23 Try.underlying5 Try.underlying9 c53 r53
          generalize a_.eval = ρ_ at *
          go_simp
          exact ⟨Below.refl _ _, rfl⟩
        refine allFrom_cons ?_ ?_
        · intro a_ w_ hk_
          have h0 : a_.eval (.tmp 0) = .int .u64 (x : Int) := hk_.old 0 (by kernel_rfl)
          have hx_ := hk_.ext
          clear hk_
          refine flow_plain rfl ?_
          exact gives_move rfl ⟨Below.refl _ _, h0⟩
        refine allFrom_cons ?_ ?_
        · intro a_ w_ hk_
          have h1 : a_.eval (.tmp 1) = .int .i64 n := hk_.old 1 (by kernel_rfl)
          have hx_ := hk_.ext
          clear hk_
          refine flow_plain rfl ?_
          exact gives_move rfl ⟨Below.refl _ _, h1⟩
        refine allFrom_cons ?_ ?_
        · intro a_ w_ hk_
          have h55 : a_.eval (.tmp 55) = (.int .u64 (x : Int)) := hk_.got 3 55 _ (by kernel_rfl) rfl rfl
          have h56 : a_.eval (.tmp 56) = (.int .i64 n) := hk_.got 4 56 _ (by kernel_rfl) rfl rfl
          have hx_ := hk_.ext
          clear hk_
          refine flow_plain rfl ?_
          unfold gives
          have hc_ : ∀ v, a_.eval (.const v) = v := fun _ => rfl
          have hn_ : ∀ f, a_.eval (.func f) = .func (.func f) #[] #[] := fun _ => rfl
          generalize a_.eval = ρ_ at *
          go_simp
          exact (refNum_any w_ x (by omega) n).mono fun e w' hh => ⟨_, hh.1, hh.2, rfl⟩
        refine allFrom_cons ?_ ?_
        · intro a_ w_ hk_
          have h2 : a_.eval (.tmp 2) = .slice A0 l0.length c0 := hk_.old 2 (by kernel_rfl)
          have hx_ := hk_.ext
          clear hk_
          refine flow_plain rfl ?_
          exact gives_move rfl ⟨Below.refl _ _, h2⟩
        refine allFrom_cons ?_ ?_
        · intro a_ w_ hk_
          have h58 : a_.eval (.tmp 58) = (.slice A0 l0.length c0) := hk_.got 6 58 _ (by kernel_rfl) rfl rfl
          have hx_ := hk_.ext
          clear hk_
          refine flow_plain rfl ?_
          unfold gives
          have hc_ : ∀ v, a_.eval (.const v) = v := fun _ => rfl
          have hn_ : ∀ f, a_.eval (.func f) = .func (.func f) #[] #[] := fun _ => rfl
          have hcs := conv_str (P := Try.prog) (src := 23) (dst := 9) Try.underlying23 Try.underlying5 Try.underlying9 c0 (HR.out.below (bx_trans hb0r hx_))
          generalize a_.eval = ρ_ at *
          go_simp
          exact ⟨Below.refl _ _, rfl⟩
        refine allFrom_cons ?_ ?_
        · intro a_ w_ hk_
          have h59 : a_.eval (.tmp 59) = (.string ⟨l0.toArray⟩) := hk_.got 7 59 _ (by kernel_rfl) rfl rfl
          have hx_ := hk_.ext
          clear hk_
          refine flow_plain rfl ?_
          unfold gives
          have hc_ : ∀ v, a_.eval (.const v) = v := fun _ => rfl
          have hn_ : ∀ f, a_.eval (.func f) = .func (.func f) #[] #[] := fun _ => rfl
          generalize a_.eval = ρ_ at *
          go_simp
          exact (refBytes_any w_ l0 (by omega)).mono fun e w' hh => ⟨_, hh.1, hh.2, rfl⟩
        refine allFrom_cons ?_ ?_
        · intro a_ w_ hk_
          have h57 : a_.eval (.tmp 57) = (.string ⟨(numW x n).toArray⟩) := hk_.got 5 57 _ (by kernel_rfl) rfl rfl
          have h60 : a_.eval (.tmp 60) = (.string ⟨(bytesW l0).toArray⟩) := hk_.got 8 60 _ (by kernel_rfl) rfl rfl
          have hx_ := hk_.ext
          clear hk_
          refine flow_plain rfl ?_
          unfold gives
          have hc_ : ∀ v, a_.eval (.const v) = v := fun _ => rfl
          have hn_ : ∀ f, a_.eval (.func f) = .func (.func f) #[] #[] := fun _ => rfl
          have hsa := HSA1.out
          generalize a_.eval = ρ_ at *
          go_simp
          exact ⟨Below.refl _ _, rfl⟩
        refine allFrom_cons ?_ ?_
        · intro a_ w_ hk_
          have h2 : a_.eval (.tmp 2) = .slice A0 l0.length c0 := hk_.old 2 (by kernel_rfl)
          have hx_ := hk_.ext
          clear hk_
          refine flow_plain rfl ?_
          exact gives_move rfl ⟨Below.refl _ _, h2⟩
        refine allFrom_cons ?_ ?_
        · intro a_ w_ hk_
          have h62 : a_.eval (.tmp 62) = (.slice A0 l0.length c0) := hk_.got 10 62 _ (by kernel_rfl) rfl rfl
          have hx_ := hk_.ext
          clear hk_
          refine flow_plain rfl ?_
          unfold gives
          have hc_ : ∀ v, a_.eval (.const v) = v := fun _ => rfl
          have hn_ : ∀ f, a_.eval (.func f) = .func (.func f) #[] #[] := fun _ => rfl
          have hcs := conv_str (P := Try.prog) (src := 23) (dst := 9) Try.underlying23 Try.underlying5 Try.underlying9 c0 (HR.out.below (bx_trans hb0r hx_))
          generalize a_.eval = ρ_ at *
          go_simp
          exact ⟨Below.refl _ _, rfl⟩
        refine allFrom_cons ?_ ?_
        · intro a_ w_ hk_
          have h61 : a_.eval (.tmp 61) = (.string ⟨p1.toArray⟩) := hk_.got 9 61 _ (by kernel_rfl) rfl rfl
          have h63 : a_.eval (.tmp 63) = (.string ⟨l0.toArray⟩) := hk_.got 11 63 _ (by kernel_rfl) rfl rfl
          have hx_ := hk_.ext
          clear hk_
          refine flow_plain rfl ?_
          unfold gives
          have hc_ : ∀ v, a_.eval (.const v) = v := fun _ => rfl
          have hn_ : ∀ f, a_.eval (.func f) = .func (.func f) #[] #[] := fun _ => rfl
          have hsa := HSA2.out
          generalize a_.eval = ρ_ at *
          go_simp
          exact ⟨Below.refl _ _, rfl⟩
        refine allFrom_cons ?_ ?_
        · intro a_ w_ hk_
          have h11 : a_.eval (.tmp 11) = .string ⟨h.toArray⟩ := hk_.old 11 (by kernel_rfl)
          have hx_ := hk_.ext
          clear hk_
          refine flow_plain rfl ?_
          exact gives_move rfl ⟨Below.refl _ _, h11⟩
        refine allFrom_cons ?_ ?_
        · intro a_ w_ hk_
          have h64 : a_.eval (.tmp 64) = (.string ⟨p2.toArray⟩) := hk_.got 12 64 _ (by kernel_rfl) rfl rfl
          have h65 : a_.eval (.tmp 65) = (.string ⟨h.toArray⟩) := hk_.got 13 65 _ (by kernel_rfl) rfl rfl
          have hx_ := hk_.ext
          clear hk_
          refine flow_plain rfl ?_
          unfold gives
          have hc_ : ∀ v, a_.eval (.const v) = v := fun _ => rfl
          have hn_ : ∀ f, a_.eval (.func f) = .func (.func f) #[] #[] := fun _ => rfl
          have hsa := HSA3.out
          generalize a_.eval = ρ_ at *
          go_simp
          exact ⟨Below.refl _ _, rfl⟩
        exact allFrom_nil
      intro f_ w_ hx_ hf_
      have h52 : f_ 52 = (.pointer (some ⟨g, 0, none⟩)) := hf_ 0 52 _ (by decide) rfl rfl
      have h53 : (FP.bytes all).p (f_ 53) w_ := hf_ 1 53 _ (by decide) rfl rfl
      have h54 : f_ 54 = (.string ⟨all.toArray⟩) := hf_ 2 54 _ (by decide) rfl rfl
      have h55 : f_ 55 = (.int .u64 (x : Int)) := hf_ 3 55 _ (by decide) rfl rfl
      have h56 : f_ 56 = (.int .i64 n) := hf_ 4 56 _ (by decide) rfl rfl
      have h57 : f_ 57 = (.string ⟨(numW x n).toArray⟩) := hf_ 5 57 _ (by decide) rfl rfl
      have h58 : f_ 58 = (.slice A0 l0.length c0) := hf_ 6 58 _ (by decide) rfl rfl
      have h59 : f_ 59 = (.string ⟨l0.toArray⟩) := hf_ 7 59 _ (by decide) rfl rfl
      have h60 : f_ 60 = (.string ⟨(bytesW l0).toArray⟩) := hf_ 8 60 _ (by decide) rfl rfl
      have h61 : f_ 61 = (.string ⟨p1.toArray⟩) := hf_ 9 61 _ (by decide) rfl rfl
      have h62 : f_ 62 = (.slice A0 l0.length c0) := hf_ 10 62 _ (by decide) rfl rfl
      have h63 : f_ 63 = (.string ⟨l0.toArray⟩) := hf_ 11 63 _ (by decide) rfl rfl
      have h64 : f_ 64 = (.string ⟨p2.toArray⟩) := hf_ 12 64 _ (by decide) rfl rfl
      have h65 : f_ 65 = (.string ⟨h.toArray⟩) := hf_ 13 65 _ (by decide) rfl rfl
      have h66 : f_ 66 = (.string ⟨all.toArray⟩) := hf_ 14 66 _ (by decide) rfl rfl
      simp only [mix, List.drop_succ_cons, List.drop_zero, h52, h54, h55, h56, h57, h58, h59, h60, h61, h62, h63, h64, h65, h66]
      clear h52 h54 h55 h56 h57 h58 h59 h60 h61 h62 h63 h64 h65 h66
      clear hf_
      go_wp2_with fail
      refine (Out_nil w_).mono ?_
      rintro e w8 ⟨rfl, rfl⟩
      go_wp2
      go_ret
      exact ⟨rfl, bx_trans hb0r hx_⟩
end Go.Proofs.Ytnlgogladafcdaa
