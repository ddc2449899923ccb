
/- FrontierRoots: its walk. -/
import Derived.Test.YtohkfnmggmlogaaDoorFrE
import Derived.OpenShut
namespace Go.Proofs.YtohkfnmggmlogaaDoor
open Go.RowKit
set_option linter.unusedVariables false
/-- What is there, behind Add or ahead of it. -/
def GK (w wr : World) (B g n : Nat) (st : List (List UInt8)) : List (Option Value) → World → Prop
  | [some v], w' => v = .int .i64 0 ∧ (∃ A c, IsF w' B g n st A c) ∧ Below w.heap.size w w'
  | _, w' => w' = wr.drew
theorem GK.below {w wr w1 w2 : World} {B g n : Nat} {st : List (List UInt8)} {v : Value} (h : GK w wr B g n st [some v] w1) (hb : Below w1.heap.size w1 w2) : GK w wr B g n st [some v] w2 :=
  ⟨h.1, h.2.1.elim fun A h1 => h1.elim fun c h2 => ⟨A, c, h2.below hb⟩, bx_trans h.2.2 hb⟩
/-- What a round keeps. -/
def RRel (w : World) (ls : List (List UInt8)) (v7 v8 : Value) (wr : World) : Prop :=
  ∃ (i g B : Nat) (A : Option Addr) (c : Nat), i ≤ ls.length ∧ v7 = .pointer (some ⟨g, 0, none⟩) ∧ v8 = .int .i64 (i : Int) ∧ IsF wr B g i (frs (ls.take i)) A c ∧ w.heap.size ≤ B ∧ Below w.heap.size w wr
set_option maxRecDepth 100000 in
set_option maxHeartbeats 1000000 in
theorem FrontierRoots_walk (w : World) (hL : Laid w) (A0 : Option Addr) (c0 : Nat) (ls : List (List UInt8)) (hc : ls.length ≤ c0) (hm : c0 ≤ maxLen) (hs : ∀ l ∈ ls, l.length ≤ maxLen) (hr : RdBB w w.heap.size A0 ls) (at_ : Int) (hat : (Lit.int .u8 at_).wf = true) :
    Calls Tryd.prog 4 #[.slice A0 ls.length c0, .int .u8 at_] w fun e w' => e = .returned (.bool true) ∧ Below w.heap.size w w' := by
  have hba := bounds_u8 hat
  obtain ⟨a, rfl⟩ := Int.eq_ofNat_of_zero_le hba.1
  have ha : a < 256 := by omega
  obtain ⟨z, hz⟩ : ∃ z, z = a % 20 := ⟨_, rfl⟩
  have hz20 : z < 20 := by omega
  have hzr : (a : Int).tmod 20 = (z : Int) := (Int.tmod_eq_emod_of_nonneg (by omega)).trans (by omega)
  have hzc : IntKind.i64.wrap (z : Int) = (z : Int) := wr_i64 _ (by omega) (by omega)
  have hzc8 : IntKind.u8.wrap (z : Int) = (z : Int) := by simp only [IntKind.wrap, IntKind.bits, IntKind.signed]; simp; omega
  have HL := hid hL
  have HR := hid hr
  clear hL hr hs hat hba hz
  go_enter Tryd.func4, Tryd.ntmps4
  go_wp2_with fail
  refine (frAwake w HL.out).mono ?_
  rintro e w1 ⟨rfl, hb1⟩
  go_wp2_with fail
  refine (few_any w1 ((HR.out.below hb1).more hb1.size) hc hm).mono ?_
  rintro e w2 ⟨rfl, rfl⟩
  cases hf : fewB ls with
  | false =>
    clear hf
    go_wp2
    go_ret
    exact ⟨rfl, hb1⟩
  | true =>
    obtain ⟨h20, hlen⟩ := fewB_len hf
    have HLEN := hid hlen
    have H60 := hid (fewB_60 hf)
    obtain ⟨n, hn⟩ : ∃ n, n = ls.length := ⟨_, rfl⟩
    have HN := hid hn
    rw [← hn] at h20 hc ⊢
    clear hf hlen hn
    go_wp2_with fail
    refine (New_any _).mono ?_
    rintro e w3 ⟨g, rfl, hF3, hb3⟩
    have HF3 := hid hF3
    have hb03 := bx_trans hb1 hb3
    have hsB := hb1.size
    clear hF3 hb3 hb1
    go_wp2
    go_loopw [7, 8, 9, 10] (fun v7 v8 v9 v10 wr => RRel w ls v7 v8 wr) (fun _ v8 _ _ _ => n - (intOf v8).toNat)
    case atStart => exact ⟨0, g, _, none, 0, Nat.zero_le _, rfl, rfl, HF3.out, hsB, hb03⟩
    case round =>
      clear hb03 HF3 hsB
      obtain ⟨i, g, B, A, c, hi, rfl, rfl, hF, hB, hbr⟩ := hrel
      rename World => wr
      rw [← HN.out] at hi
      by_cases hlt : i < n
      · obtain ⟨b0, off, Ae, ce, rfl, hbB, hcell, hle1, hrde⟩ := HR.out.at_ (k := i) (by rw [← HN.out]; exact hlt)
        have htk : ls.take (i + 1) = ls.take i ++ [ls[i]'(by rw [← HN.out]; exact hlt)] := List.take_succ_eq_append_getElem _
        have hlen1 := HLEN.out _ (List.getElem_mem (show i < ls.length by rw [← HN.out]; exact hlt))
        have h60 := H60.out _ (List.getElem_mem (show i < ls.length by rw [← HN.out]; exact hlt))
        have hti : (ls.take i).length = i := by rw [List.length_take, ← HN.out]; omega
        have hti1 : (ls.take (i + 1)).length = i + 1 := by rw [List.length_take, ← HN.out]; omega
        have hfs : frs (ls.take (i + 1)) = fadd i (frs (ls.take i)) (leafL (ls[i]'(by rw [← HN.out]; exact hlt))) := by rw [htk, frs_snoc, hti]
        have hon : (frs (ls.take i)).length = ones i := by rw [(stk_frs _).2, hti]
        have hon1 : (frs (ls.take (i + 1))).length = ones (i + 1) := by rw [(stk_frs _).2, hti1]
        have hfr1 := froot_frs (ls.take (i + 1))
        have hrt := HR.out.takeL (i + 1)
        have hmt : ∀ l ∈ ls.take (i + 1), l.length ≤ 800000000 := fun l hl => HLEN.out l (List.mem_of_mem_take hl)
        have hcell' := (hbr.cell (p := ⟨b0, off + i, none⟩) hbB).trans hcell
        have hrde' := (hrde.below hbr).more hbr.size
        have h32s := frs_32 (ls.take i)
        have hle32 := leafL_len (ls[i]'(by rw [← HN.out]; exact hlt))
        have hx32 := treeR_len (ls.take (i + 1))
        have HON1 := hid hon1
        have HON := hid hon
        have HFS := hid hfs
        have HFR := hid hfr1
        have HRT := hid hrt
        have HMT := hid hmt
        have HTI1 := hid hti1
        have HRDE := hid hrde
        have HCELL := hid hcell
        have H32 := hid h32s
        clear htk hti hfs hon hon1 hfr1 hrt hmt hti1 hcell hrde hcell' hrde' h32s
        generalize hST1 : frs (ls.take (i + 1)) = st1 at *
        have HST1 := hid hST1
        clear hST1
        generalize ls[i]'(by rw [← HN.out]; exact hlt) = en at *
        generalize frs (ls.take i) = st at *
        generalize hX : treeR (ls.take (i + 1)) = X at *
        have HX := hid hX
        clear hX
        have q := eq_hash X X hx32 hx32
        rw [show (X == X) = true from by simp] at q
        have hin : (i : Int) < (n : Int) := by omega
        have hi1c : i + 1 ≤ c0 := by omega
        have hi1d : 0 ≤ (i : Int) + 1 ∧ (i : Int) + 1 ≤ (c0 : Int) := by omega
        have hw1 : IntKind.u64.wrap (i : Int) = (i : Int) := u64_len i (by omega)
        by_cases hiz : i = z
        · have hizi : ((i : Int) == (z : Int)) = true := by simp; omega
          clear hiz
          have HFa := hid hF
          clear hF
          go_wp2_with fail
          refine (Size_any wr HFa.out).mono ?_
          rintro e w4 ⟨rfl, rfl⟩
          go_wp2_with fail
          refine (Peaks_any _ HFa.out (by have := ones_le 64 i (by omega); have := HON.out; omega)).mono ?_
          rintro e w5 ⟨v5, rfl, hown5, hb5⟩
          obtain ⟨A5, c5, rfl, _, _, hrd5⟩ := own_form hown5
          have hb05 := bx_trans hbr hb5
          go_wp2_with fail
          refine (From_ok w5 A5 c5 i st.length (hs := st.reverse) (by omega) (by have := ones_le 64 i (by omega); have := HON.out; omega) HON.out.symm (by rw [List.length_reverse]) hrd5 (fun p hp => H32.out p (List.mem_reverse.1 hp))).mono ?_
          rintro e w6 ⟨g6, A6, c6, rfl, hF6, hb6⟩
          rw [List.reverse_reverse] at hF6
          have hbr6 := bx_trans hb05 hb6
          have hB6 : w.heap.size ≤ w5.heap.size := hb05.size
          clear hown5 hrd5 hb5 hb6 hb05 HFa hbr hB
          obtain ⟨wr', hwr'⟩ : ∃ wr', wr' = w6 := ⟨_, rfl⟩
          obtain ⟨g', hg'⟩ : ∃ g', g' = g6 := ⟨_, rfl⟩
          obtain ⟨B', hB'⟩ : ∃ B', B' = w5.heap.size := ⟨_, rfl⟩
          rw [← hwr'] at hF6 hbr6
          rw [← hg', ← hB'] at hF6
          rw [← hB'] at hB6
          rw [← hg']
          rw [← hwr']
          clear hwr' hg' hB'
          go_wp2_with fail
          obtain ⟨A7, c7, hF7⟩ : ∃ A c, IsF wr' B' g' i st A c := ⟨_, _, hF6⟩
          have hgl := hF7.blk.lt
          have hgB := hF7.gB
          have hBw : B' ≤ wr'.heap.size := by omega
          have HADD := hid (Add_any wr'.drew (w0 := w) HL.out (bx_drew hbr6) hB6 (hF7.below (bx_drew (Below.refl _ _))) (by omega) HON.out hBw ((HRDE.out.below (bx_drew hbr6)).more hbr6.size) (Nat.le_refl _) hle1 (by omega))
          rw [← HFS.out] at HADD
          have hbl0 : b0 < wr'.heap.size := Nat.lt_of_lt_of_le hbB hbr6.size
          have hc7 : wr'.drew.cell? ⟨b0, off + i, none⟩ = some (.slice Ae en.length ce) := ((bx_drew hbr6).cell (p := ⟨b0, off + i, none⟩) hbB).trans HCELL.out
          have HC7 := hid hc7
          clear hF6 hF7 hc7
          refine wp_flowK (by kernel_rfl) [0, 0, 0, 6, 14, 31, 63, 127, 255, 511, 255, 255, 2303, 7423, 16383, 32767, 65535, 131071, 262143, 524287, 262143, 1310719, 3407871, 8388607, 16777215] 25 [false, false, false, false, false, false, false, false, false, false, false, false, false, false, false, false, false, false, false, false, false, false, false, false, false, false, false, false, false, false, false, false, false, false, false, false, false, false, false, false, false, true, true, true, true, true, true, true, true, true, true, true, true, true, true, true, true, true, true, true, true, true, true, true, true, true] (by kernel_rfl) (by decide) (by kernel_rfl) [KP.eq (.pointer (some ⟨g', 0, none⟩)), KP.eq (.slice (some ⟨b0, off, none⟩) n c0), KP.eq (.int .i64 (i : Int)), KP.eq (.pointer (some ⟨b0, off + i, none⟩)), KP.eq (.slice Ae en.length ce), KP.any, KP.eq (.bool false), KP.eq (.bool false), KP.eq (.pointer (some ⟨g', 0, none⟩)), KP.eq (.agg (X.map cb).toArray), KP.eq (.slice (some ⟨b0, off, none⟩) n c0), KP.eq (.int .i64 (i : Int)), KP.eq (.int .i64 ((i + 1 : Nat) : Int)), KP.eq (.slice (some ⟨b0, off, none⟩) (i + 1) c0), KP.eq (.agg (X.map cb).toArray), KP.eq (.bool false), KP.eq (.bool false), KP.eq (.bool false), KP.eq (.pointer (some ⟨g', 0, none⟩)), KP.eq (.int .u64 ((i + 1 : Nat) : Int)), KP.eq (.int .i64 (i : Int)), KP.eq (.int .u64 (i : Int)), KP.eq (.int .u64 ((i + 1 : Nat) : Int)), KP.eq (.bool false), KP.eq (.bool false)] [5] (GK w wr' B' g' (i + 1) st1) ?_ ?_ ?_
          · exact rfl
          · refine allFrom_cons ?_ ?_
            · refine stepK_by (by decide) ?_
              intro f_ a_ w_ hM_ hk_
              have h7 : a_.eval (.tmp 7) = .pointer (some ⟨g', 0, none⟩) := hk_.old 7 (by kernel_rfl)
              have k5 := hk_.later 5 _ (by kernel_rfl) rfl
              clear hk_
              refine flow_plain rfl ?_
              exact gives_move rfl ⟨hM_, h7⟩
            refine allFrom_cons ?_ ?_
            · refine stepK_by (by decide) ?_
              intro f_ a_ w_ hM_ hk_
              have h0 : a_.eval (.tmp 0) = .slice (some ⟨b0, off, none⟩) n c0 := hk_.old 0 (by kernel_rfl)
              have k5 := hk_.later 5 _ (by kernel_rfl) rfl
              clear hk_
              refine flow_plain rfl ?_
              exact gives_move rfl ⟨hM_, h0⟩
            refine allFrom_cons ?_ ?_
            · refine stepK_by (by decide) ?_
              intro f_ a_ w_ hM_ hk_
              have h8 : a_.eval (.tmp 8) = .int .i64 (i : Int) := hk_.old 8 (by kernel_rfl)
              have k5 := hk_.later 5 _ (by kernel_rfl) rfl
              clear hk_
              refine flow_plain rfl ?_
              exact gives_move rfl ⟨hM_, h8⟩
            refine allFrom_cons ?_ ?_
            · refine stepK_by (by decide) ?_
              intro f_ a_ w_ hM_ hk_
              have h42 : a_.eval (.tmp 42) = (.slice (some ⟨b0, off, none⟩) n c0) := hk_.got 1 42 _ (by kernel_rfl) rfl rfl
              have h43 : a_.eval (.tmp 43) = (.int .i64 (i : Int)) := hk_.got 2 43 _ (by kernel_rfl) rfl rfl
              have k5 := hk_.later 5 _ (by kernel_rfl) rfl
              clear hk_
              refine flow_plain rfl ?_
              refine gives_keep hM_ ?_
              unfold gives
              have hc_ : ∀ v, a_.eval (.const v) = v := fun _ => rfl
              have hn_ : ∀ f, a_.eval (.func f) = .func (.func f) #[] #[] := fun _ => rfl
              generalize a_.eval = ρ_ at *
              go_simp
              exact ⟨rfl, rfl⟩
            refine allFrom_cons ?_ ?_
            · refine stepK_by (by decide) ?_
              intro f_ a_ w_ hM_ hk_
              have h44 : a_.eval (.tmp 44) = (.pointer (some ⟨b0, off + i, none⟩)) := hk_.got 3 44 _ (by kernel_rfl) rfl rfl
              have k5 := hk_.later 5 _ (by kernel_rfl) rfl
              clear hk_
              refine flow_plain rfl ?_
              have hM := hM_
              simp only [List.map_cons, List.map_nil, k5] at hM
              refine gives_keep hM_ ?_
              unfold gives
              have hc_ : ∀ v, a_.eval (.const v) = v := fun _ => rfl
              have hn_ : ∀ f, a_.eval (.func f) = .func (.func f) #[] #[] := fun _ => rfl
              have hcell : w_.cell? ⟨b0, off + i, none⟩ = some (.slice Ae en.length ce) := by (rw [show w_ = wr'.drew from hM]; exact HC7.out)
              generalize a_.eval = ρ_ at *
              go_simp
              exact ⟨rfl, rfl⟩
            refine allFrom_cons ?_ ?_
            · intro f_ a_ w_ hM_ hk_
              have h41 : a_.eval (.tmp 41) = (.pointer (some ⟨g', 0, none⟩)) := hk_.got 0 41 _ (by kernel_rfl) rfl rfl
              have h45 : a_.eval (.tmp 45) = (.slice Ae en.length ce) := hk_.got 4 45 _ (by kernel_rfl) rfl rfl
              have k5 : f_ 5 = none := hk_.un
              clear hk_
              simp only [List.map_cons, List.map_nil, k5] at hM_
              simp only [List.map_cons, List.map_nil, upd_same]
              refine flow_plain rfl ?_
              unfold gives
              have hc_ : ∀ v, a_.eval (.const v) = v := fun _ => rfl
              have hn_ : ∀ f, a_.eval (.func f) = .func (.func f) #[] #[] := fun _ => rfl
              generalize a_.eval = ρ_ at *
              go_simp
              have hw_ : w_ = wr'.drew := hM_
              subst hw_
              exact HADD.out.mono fun e w' hh => ⟨_, hh.1, ⟨rfl, hh.2.elim fun A h1 => h1.elim fun c h2 => ⟨A, c, h2.isF⟩, hh.2.elim fun A h1 => h1.elim fun c h2 => (bx_drew hbr6).trans (h2.below.mono hB6)⟩⟩
            refine allFrom_cons ?_ ?_
            · refine stepK_by (by decide) ?_
              intro f_ a_ w_ hM_ hk_
              have k5 := hk_.val 5 46 _ (by kernel_rfl) rfl rfl
              clear hk_
              refine flow_plain rfl ?_
              have hM := hM_
              simp only [List.map_cons, List.map_nil, k5] at hM
              refine gives_keep hM_ ?_
              unfold gives
              have hc_ : ∀ v, a_.eval (.const v) = v := fun _ => rfl
              have hn_ : ∀ f, a_.eval (.func f) = .func (.func f) #[] #[] := fun _ => rfl
              have e5 := hM.1
              generalize a_.eval = ρ_ at *
              go_simp
              exact ⟨rfl, rfl⟩
            refine allFrom_cons ?_ ?_
            · refine stepK_by (by decide) ?_
              intro f_ a_ w_ hM_ hk_
              have h47 : a_.eval (.tmp 47) = (.bool false) := hk_.got 6 47 _ (by kernel_rfl) rfl rfl
              have k5 := hk_.val 5 46 _ (by kernel_rfl) rfl rfl
              clear hk_
              refine flow_plain rfl ?_
              exact gives_move rfl ⟨hM_, h47⟩
            refine allFrom_cons ?_ ?_
            · refine stepK_by (by decide) ?_
              intro f_ a_ w_ hM_ hk_
              have h7 : a_.eval (.tmp 7) = .pointer (some ⟨g', 0, none⟩) := hk_.old 7 (by kernel_rfl)
              have k5 := hk_.val 5 46 _ (by kernel_rfl) rfl rfl
              have hg_ : a_.eval (.tmp 48) = .bool false := hk_.got 7 48 _ (by kernel_rfl) rfl rfl
              have hy_ := hk_.want 7 _ 48 false rfl rfl hg_
              clear hk_
              refine flow_want rfl hy_ ?_
              exact gives_move rfl ⟨hM_, h7⟩
            refine allFrom_cons ?_ ?_
            · refine stepK_by (by decide) ?_
              intro f_ a_ w_ hM_ hk_
              have h49 : a_.eval (.tmp 49) = (.pointer (some ⟨g', 0, none⟩)) := hk_.got 8 49 _ (by kernel_rfl) rfl rfl
              have k5 := hk_.val 5 46 _ (by kernel_rfl) rfl rfl
              have hg_ : a_.eval (.tmp 48) = .bool false := hk_.got 7 48 _ (by kernel_rfl) rfl rfl
              have hy_ := hk_.want 7 _ 48 false rfl rfl hg_
              clear hk_
              refine flow_want rfl hy_ ?_
              have hM := hM_
              simp only [List.map_cons, List.map_nil, k5] at hM
              have hM0 := hM
              obtain ⟨e5, ⟨A8, c8, hF8⟩, hb8⟩ := hM
              rw [e5] at hM0
              unfold gives
              have hc_ : ∀ v, a_.eval (.const v) = v := fun _ => rfl
              have hn_ : ∀ f, a_.eval (.func f) = .func (.func f) #[] #[] := fun _ => rfl
              generalize a_.eval = ρ_ at *
              go_simp
              exact (FRoot_any w_ (HL.out.below hb8) hF8 HON1.out (by omega)).mono fun e w' hh => ⟨_, hh.1, hM0.below hh.2, by rw [HFR.out]⟩
            refine allFrom_cons ?_ ?_
            · refine stepK_by (by decide) ?_
              intro f_ a_ w_ hM_ hk_
              have h0 : a_.eval (.tmp 0) = .slice (some ⟨b0, off, none⟩) n c0 := hk_.old 0 (by kernel_rfl)
              have k5 := hk_.val 5 46 _ (by kernel_rfl) rfl rfl
              have hg_ : a_.eval (.tmp 48) = .bool false := hk_.got 7 48 _ (by kernel_rfl) rfl rfl
              have hy_ := hk_.want 7 _ 48 false rfl rfl hg_
              clear hk_
              refine flow_want rfl hy_ ?_
              exact gives_move rfl ⟨hM_, h0⟩
            refine allFrom_cons ?_ ?_
            · refine stepK_by (by decide) ?_
              intro f_ a_ w_ hM_ hk_
              have h8 : a_.eval (.tmp 8) = .int .i64 (i : Int) := hk_.old 8 (by kernel_rfl)
              have k5 := hk_.val 5 46 _ (by kernel_rfl) rfl rfl
              have hg_ : a_.eval (.tmp 48) = .bool false := hk_.got 7 48 _ (by kernel_rfl) rfl rfl
              have hy_ := hk_.want 7 _ 48 false rfl rfl hg_
              clear hk_
              refine flow_want rfl hy_ ?_
              exact gives_move rfl ⟨hM_, h8⟩
            refine allFrom_cons ?_ ?_
            · refine stepK_by (by decide) ?_
              intro f_ a_ w_ hM_ hk_
              have h52 : a_.eval (.tmp 52) = (.int .i64 (i : Int)) := hk_.got 11 52 _ (by kernel_rfl) rfl rfl
              have k5 := hk_.val 5 46 _ (by kernel_rfl) rfl rfl
              have hg_ : a_.eval (.tmp 48) = .bool false := hk_.got 7 48 _ (by kernel_rfl) rfl rfl
              have hy_ := hk_.want 7 _ 48 false rfl rfl hg_
              clear hk_
              refine flow_want rfl hy_ ?_
              have hM := hM_
              simp only [List.map_cons, List.map_nil, k5] at hM
              refine gives_keep hM_ ?_
              unfold gives
              have hc_ : ∀ v, a_.eval (.const v) = v := fun _ => rfl
              have hn_ : ∀ f, a_.eval (.func f) = .func (.func f) #[] #[] := fun _ => rfl
              clear hy_ hg_
              generalize a_.eval = ρ_ at *
              go_simp
              first | exact ⟨rfl, rfl⟩ | exact ⟨rfl, congrArg (Value.int _) (by rw [wr_i64 _ (by omega) (by omega)])⟩ | exact ⟨rfl, congrArg (Value.int _) (by rw [wr_i64 _ (by omega) (by omega)]; rfl)⟩
            refine allFrom_cons ?_ ?_
            · refine stepK_by (by decide) ?_
              intro f_ a_ w_ hM_ hk_
              have h51 : a_.eval (.tmp 51) = (.slice (some ⟨b0, off, none⟩) n c0) := hk_.got 10 51 _ (by kernel_rfl) rfl rfl
              have h53 : a_.eval (.tmp 53) = (.int .i64 ((i + 1 : Nat) : Int)) := hk_.got 12 53 _ (by kernel_rfl) rfl rfl
              have k5 := hk_.val 5 46 _ (by kernel_rfl) rfl rfl
              have hg_ : a_.eval (.tmp 48) = .bool false := hk_.got 7 48 _ (by kernel_rfl) rfl rfl
              have hy_ := hk_.want 7 _ 48 false rfl rfl hg_
              clear hk_
              refine flow_want rfl hy_ ?_
              refine gives_keep hM_ ?_
              unfold gives
              have hc_ : ∀ v, a_.eval (.const v) = v := fun _ => rfl
              have hn_ : ∀ f, a_.eval (.func f) = .func (.func f) #[] #[] := fun _ => rfl
              clear hy_ hg_
              generalize a_.eval = ρ_ at *
              go_simp
              exact ⟨rfl, rfl⟩
            refine allFrom_cons ?_ ?_
            · refine stepK_by (by decide) ?_
              intro f_ a_ w_ hM_ hk_
              have h54 : a_.eval (.tmp 54) = (.slice (some ⟨b0, off, none⟩) (i + 1) c0) := hk_.got 13 54 _ (by kernel_rfl) rfl rfl
              have k5 := hk_.val 5 46 _ (by kernel_rfl) rfl rfl
              have hg_ : a_.eval (.tmp 48) = .bool false := hk_.got 7 48 _ (by kernel_rfl) rfl rfl
              have hy_ := hk_.want 7 _ 48 false rfl rfl hg_
              clear hk_
              refine flow_want rfl hy_ ?_
              have hM := hM_
              simp only [List.map_cons, List.map_nil, k5] at hM
              have hM0 := hM
              obtain ⟨e5, ⟨A8, c8, hF8⟩, hb8⟩ := hM
              rw [e5] at hM0
              unfold gives
              have hc_ : ∀ v, a_.eval (.const v) = v := fun _ => rfl
              have hn_ : ∀ f, a_.eval (.func f) = .func (.func f) #[] #[] := fun _ => rfl
              generalize a_.eval = ρ_ at *
              go_simp
              exact (Root_any (i + 1) w_ (ls.take (i + 1)) (i + 1) (some ⟨b0, off, none⟩) c0 w.heap.size HTI1.out (Nat.le_refl _) (HL.out.below hb8) (HRT.out.below hb8) hb8.size hi1c (by omega) HMT.out).mono fun e w' hh => ⟨_, hh.1, hM0.below hh.2, by rw [HX.out]⟩
            refine allFrom_cons ?_ ?_
            · refine stepK_by (by decide) ?_
              intro f_ a_ w_ hM_ hk_
              have h50 : a_.eval (.tmp 50) = (.agg (X.map cb).toArray) := hk_.got 9 50 _ (by kernel_rfl) rfl rfl
              have h55 : a_.eval (.tmp 55) = (.agg (X.map cb).toArray) := hk_.got 14 55 _ (by kernel_rfl) rfl rfl
              have k5 := hk_.val 5 46 _ (by kernel_rfl) rfl rfl
              have hg_ : a_.eval (.tmp 48) = .bool false := hk_.got 7 48 _ (by kernel_rfl) rfl rfl
              have hy_ := hk_.want 7 _ 48 false rfl rfl hg_
              clear hk_
              refine flow_want rfl hy_ ?_
              refine gives_keep hM_ ?_
              unfold gives
              have hc_ : ∀ v, a_.eval (.const v) = v := fun _ => rfl
              have hn_ : ∀ f, a_.eval (.func f) = .func (.func f) #[] #[] := fun _ => rfl
              clear hy_ hg_
              generalize a_.eval = ρ_ at *
              go_simp
              exact ⟨rfl, rfl⟩
            refine allFrom_cons ?_ ?_
            · refine stepK_by (by decide) ?_
              intro f_ a_ w_ hM_ hk_
              have h48 : a_.eval (.tmp 48) = (.bool false) := hk_.got 7 48 _ (by kernel_rfl) rfl rfl
              have h56 : a_.eval (.tmp 56) = (.bool false) := hk_.got 15 56 _ (by kernel_rfl) rfl rfl
              have k5 := hk_.val 5 46 _ (by kernel_rfl) rfl rfl
              clear hk_
              refine flow_plain rfl ?_
              exact gives_pick rfl h48 ⟨hM_, h56⟩
            refine allFrom_cons ?_ ?_
            · refine stepK_by (by decide) ?_
              intro f_ a_ w_ hM_ hk_
              have h57 : a_.eval (.tmp 57) = (.bool false) := hk_.got 16 57 _ (by kernel_rfl) rfl rfl
              have k5 := hk_.val 5 46 _ (by kernel_rfl) rfl rfl
              clear hk_
              refine flow_plain rfl ?_
              exact gives_move rfl ⟨hM_, h57⟩
            refine allFrom_cons ?_ ?_
            · refine stepK_by (by decide) ?_
              intro f_ a_ w_ hM_ hk_
              have h7 : a_.eval (.tmp 7) = .pointer (some ⟨g', 0, none⟩) := hk_.old 7 (by kernel_rfl)
              have k5 := hk_.val 5 46 _ (by kernel_rfl) rfl rfl
              have hg_ : a_.eval (.tmp 58) = .bool false := hk_.got 17 58 _ (by kernel_rfl) rfl rfl
              have hy_ := hk_.want 17 _ 58 false rfl rfl hg_
              clear hk_
              refine flow_want rfl hy_ ?_
              exact gives_move rfl ⟨hM_, h7⟩
            refine allFrom_cons ?_ ?_
            · refine stepK_by (by decide) ?_
              intro f_ a_ w_ hM_ hk_
              have h59 : a_.eval (.tmp 59) = (.pointer (some ⟨g', 0, none⟩)) := hk_.got 18 59 _ (by kernel_rfl) rfl rfl
              have k5 := hk_.val 5 46 _ (by kernel_rfl) rfl rfl
              have hg_ : a_.eval (.tmp 58) = .bool false := hk_.got 17 58 _ (by kernel_rfl) rfl rfl
              have hy_ := hk_.want 17 _ 58 false rfl rfl hg_
              clear hk_
              refine flow_want rfl hy_ ?_
              have hM := hM_
              simp only [List.map_cons, List.map_nil, k5] at hM
              have hM0 := hM
              obtain ⟨e5, ⟨A8, c8, hF8⟩, hb8⟩ := hM
              rw [e5] at hM0
              unfold gives
              have hc_ : ∀ v, a_.eval (.const v) = v := fun _ => rfl
              have hn_ : ∀ f, a_.eval (.func f) = .func (.func f) #[] #[] := fun _ => rfl
              generalize a_.eval = ρ_ at *
              go_simp
              exact (Size_any w_ hF8).mono fun e w' hh => ⟨_, hh.1, by rw [hh.2]; exact hM0, rfl⟩
            refine allFrom_cons ?_ ?_
            · refine stepK_by (by decide) ?_
              intro f_ a_ w_ hM_ hk_
              have h8 : a_.eval (.tmp 8) = .int .i64 (i : Int) := hk_.old 8 (by kernel_rfl)
              have k5 := hk_.val 5 46 _ (by kernel_rfl) rfl rfl
              have hg_ : a_.eval (.tmp 58) = .bool false := hk_.got 17 58 _ (by kernel_rfl) rfl rfl
              have hy_ := hk_.want 17 _ 58 false rfl rfl hg_
              clear hk_
              refine flow_want rfl hy_ ?_
              exact gives_move rfl ⟨hM_, h8⟩
            refine allFrom_cons ?_ ?_
            · refine stepK_by (by decide) ?_
              intro f_ a_ w_ hM_ hk_
              have h61 : a_.eval (.tmp 61) = (.int .i64 (i : Int)) := hk_.got 20 61 _ (by kernel_rfl) rfl rfl
              have k5 := hk_.val 5 46 _ (by kernel_rfl) rfl rfl
              have hg_ : a_.eval (.tmp 58) = .bool false := hk_.got 17 58 _ (by kernel_rfl) rfl rfl
              have hy_ := hk_.want 17 _ 58 false rfl rfl hg_
              clear hk_
              refine flow_want rfl hy_ ?_
              refine gives_keep hM_ ?_
              unfold gives
              have hc_ : ∀ v, a_.eval (.const v) = v := fun _ => rfl
              have hn_ : ∀ f, a_.eval (.func f) = .func (.func f) #[] #[] := fun _ => rfl
              clear hy_ hg_
              generalize a_.eval = ρ_ at *
              go_simp
              exact ⟨rfl, rfl⟩
            refine allFrom_cons ?_ ?_
            · refine stepK_by (by decide) ?_
              intro f_ a_ w_ hM_ hk_
              have h62 : a_.eval (.tmp 62) = (.int .u64 (i : Int)) := hk_.got 21 62 _ (by kernel_rfl) rfl rfl
              have k5 := hk_.val 5 46 _ (by kernel_rfl) rfl rfl
              have hg_ : a_.eval (.tmp 58) = .bool false := hk_.got 17 58 _ (by kernel_rfl) rfl rfl
              have hy_ := hk_.want 17 _ 58 false rfl rfl hg_
              clear hk_
              refine flow_want rfl hy_ ?_
              have hM := hM_
              simp only [List.map_cons, List.map_nil, k5] at hM
              refine gives_keep hM_ ?_
              unfold gives
              have hc_ : ∀ v, a_.eval (.const v) = v := fun _ => rfl
              have hn_ : ∀ f, a_.eval (.func f) = .func (.func f) #[] #[] := fun _ => rfl
              clear hy_ hg_
              generalize a_.eval = ρ_ at *
              go_simp
              first | exact ⟨rfl, rfl⟩ | exact ⟨rfl, congrArg (Value.int _) (by rw [show (i : Int) + 1 = ((i + 1 : Nat) : Int) from rfl, wr_u64 (by omega)])⟩
            refine allFrom_cons ?_ ?_
            · refine stepK_by (by decide) ?_
              intro f_ a_ w_ hM_ hk_
              have h60 : a_.eval (.tmp 60) = (.int .u64 ((i + 1 : Nat) : Int)) := hk_.got 19 60 _ (by kernel_rfl) rfl rfl
              have h63 : a_.eval (.tmp 63) = (.int .u64 ((i + 1 : Nat) : Int)) := hk_.got 22 63 _ (by kernel_rfl) rfl rfl
              have k5 := hk_.val 5 46 _ (by kernel_rfl) rfl rfl
              have hg_ : a_.eval (.tmp 58) = .bool false := hk_.got 17 58 _ (by kernel_rfl) rfl rfl
              have hy_ := hk_.want 17 _ 58 false rfl rfl hg_
              clear hk_
              refine flow_want rfl hy_ ?_
              refine gives_keep hM_ ?_
              unfold gives
              have hc_ : ∀ v, a_.eval (.const v) = v := fun _ => rfl
              have hn_ : ∀ f, a_.eval (.func f) = .func (.func f) #[] #[] := fun _ => rfl
              clear hy_ hg_
              generalize a_.eval = ρ_ at *
              go_simp
              exact ⟨rfl, rfl⟩
            refine allFrom_cons ?_ ?_
            · refine stepK_by (by decide) ?_
              intro f_ a_ w_ hM_ hk_
              have h58 : a_.eval (.tmp 58) = (.bool false) := hk_.got 17 58 _ (by kernel_rfl) rfl rfl
              have h64 : a_.eval (.tmp 64) = (.bool false) := hk_.got 23 64 _ (by kernel_rfl) rfl rfl
              have k5 := hk_.val 5 46 _ (by kernel_rfl) rfl rfl
              clear hk_
              refine flow_plain rfl ?_
              exact gives_pick rfl h58 ⟨hM_, h64⟩
            exact allFrom_nil
          intro f_ y_ w_ hM_ hf_ hd_
          have h41 : f_ 41 = (.pointer (some ⟨g', 0, none⟩)) := (hf_ 0 41 _ (by decide) rfl rfl).1
          have h42 : f_ 42 = (.slice (some ⟨b0, off, none⟩) n c0) := (hf_ 1 42 _ (by decide) rfl rfl).1
          have h43 : f_ 43 = (.int .i64 (i : Int)) := (hf_ 2 43 _ (by decide) rfl rfl).1
          have h44 : f_ 44 = (.pointer (some ⟨b0, off + i, none⟩)) := (hf_ 3 44 _ (by decide) rfl rfl).1
          have h45 : f_ 45 = (.slice Ae en.length ce) := (hf_ 4 45 _ (by decide) rfl rfl).1
          have k5 := (hf_ 5 46 _ (by decide) rfl rfl).2
          have h47 : f_ 47 = (.bool false) := (hf_ 6 47 _ (by decide) rfl rfl).1
          have h48 : f_ 48 = (.bool false) := (hf_ 7 48 _ (by decide) rfl rfl).1
          have h49 : f_ 49 = (.pointer (some ⟨g', 0, none⟩)) := (hf_ 8 49 _ (by decide) rfl rfl).1
          have h50 : f_ 50 = (.agg (X.map cb).toArray) := (hf_ 9 50 _ (by decide) rfl rfl).1
          have h51 : f_ 51 = (.slice (some ⟨b0, off, none⟩) n c0) := (hf_ 10 51 _ (by decide) rfl rfl).1
          have h52 : f_ 52 = (.int .i64 (i : Int)) := (hf_ 11 52 _ (by decide) rfl rfl).1
          have h53 : f_ 53 = (.int .i64 ((i + 1 : Nat) : Int)) := (hf_ 12 53 _ (by decide) rfl rfl).1
          have h54 : f_ 54 = (.slice (some ⟨b0, off, none⟩) (i + 1) c0) := (hf_ 13 54 _ (by decide) rfl rfl).1
          have h55 : f_ 55 = (.agg (X.map cb).toArray) := (hf_ 14 55 _ (by decide) rfl rfl).1
          have h56 : f_ 56 = (.bool false) := (hf_ 15 56 _ (by decide) rfl rfl).1
          have h57 : f_ 57 = (.bool false) := (hf_ 16 57 _ (by decide) rfl rfl).1
          have h58 : f_ 58 = (.bool false) := (hf_ 17 58 _ (by decide) rfl rfl).1
          have h59 : f_ 59 = (.pointer (some ⟨g', 0, none⟩)) := (hf_ 18 59 _ (by decide) rfl rfl).1
          have h60 : f_ 60 = (.int .u64 ((i + 1 : Nat) : Int)) := (hf_ 19 60 _ (by decide) rfl rfl).1
          have h61 : f_ 61 = (.int .i64 (i : Int)) := (hf_ 20 61 _ (by decide) rfl rfl).1
          have h62 : f_ 62 = (.int .u64 (i : Int)) := (hf_ 21 62 _ (by decide) rfl rfl).1
          have h63 : f_ 63 = (.int .u64 ((i + 1 : Nat) : Int)) := (hf_ 22 63 _ (by decide) rfl rfl).1
          have h64 : f_ 64 = (.bool false) := (hf_ 23 64 _ (by decide) rfl rfl).1
          have h65 : f_ 65 = (.bool false) := (hf_ 24 65 _ (by decide) rfl rfl).1
          simp only [List.map_cons, List.map_nil, k5] at hM_
          simp only [mix, List.drop_succ_cons, List.drop_zero, h41, h42, h43, h44, h45, h47, h48, h49, h50, h51, h52, h53, h54, h55, h56, h57, h58, h59, h60, h61, h62, h63, h64, h65]
          clear hf_ hd_ h41 h42 h43 h44 h45 h47 h48 h49 h50 h51 h52 h53 h54 h55 h56 h57 h58 h59 h60 h61 h62 h63 h64 h65 k5
          obtain ⟨e5, ⟨A8, c8, hF8⟩, hb8⟩ := hM_
          have HF8 := hid hF8
          have HB8 := hid hb8
          clear hF8 hb8 e5 HADD HC7
          go_wp2_with fail
          go_roundw
          case rel => exact ⟨i + 1, g', B', A8, c8, by rw [← HN.out]; omega, rfl, by go_num, by rw [HST1.out]; exact HF8.out, hB6, HB8.out⟩
          case measure => simp [intOf]; omega
        · have hizi : ((i : Int) == (z : Int)) = false := by simp; omega
          clear hiz
          have hF6 := hF
          have hbr6 := hbr
          have hB6 := hB
          clear hF hbr hB
          obtain ⟨wr', hwr'⟩ : ∃ wr', wr' = wr := ⟨_, rfl⟩
          obtain ⟨g', hg'⟩ : ∃ g', g' = g := ⟨_, rfl⟩
          obtain ⟨B', hB'⟩ : ∃ B', B' = B := ⟨_, rfl⟩
          rw [← hwr'] at hF6 hbr6
          rw [← hg', ← hB'] at hF6
          rw [← hB'] at hB6
          rw [← hg']
          rw [← hwr']
          clear hwr' hg' hB'
          go_wp2_with fail
          obtain ⟨A7, c7, hF7⟩ : ∃ A c, IsF wr' B' g' i st A c := ⟨_, _, hF6⟩
          have hgl := hF7.blk.lt
          have hgB := hF7.gB
          have hBw : B' ≤ wr'.heap.size := by omega
          have HADD := hid (Add_any wr'.drew (w0 := w) HL.out (bx_drew hbr6) hB6 (hF7.below (bx_drew (Below.refl _ _))) (by omega) HON.out hBw ((HRDE.out.below (bx_drew hbr6)).more hbr6.size) (Nat.le_refl _) hle1 (by omega))
          rw [← HFS.out] at HADD
          have hbl0 : b0 < wr'.heap.size := Nat.lt_of_lt_of_le hbB hbr6.size
          have hc7 : wr'.drew.cell? ⟨b0, off + i, none⟩ = some (.slice Ae en.length ce) := ((bx_drew hbr6).cell (p := ⟨b0, off + i, none⟩) hbB).trans HCELL.out
          have HC7 := hid hc7
          clear hF6 hF7 hc7
          refine wp_flowK (by kernel_rfl) [0, 0, 0, 6, 14, 31, 63, 127, 255, 511, 255, 255, 2303, 7423, 16383, 32767, 65535, 131071, 262143, 524287, 262143, 1310719, 3407871, 8388607, 16777215] 25 [false, false, false, false, false, false, false, false, false, false, false, false, false, false, false, false, false, false, false, false, false, false, false, false, false, false, false, false, false, false, false, false, false, false, false, false, false, false, false, false, false, true, true, true, true, true, true, true, true, true, true, true, true, true, true, true, true, true, true, true, true, true, true, true, true, true] (by kernel_rfl) (by decide) (by kernel_rfl) [KP.eq (.pointer (some ⟨g', 0, none⟩)), KP.eq (.slice (some ⟨b0, off, none⟩) n c0), KP.eq (.int .i64 (i : Int)), KP.eq (.pointer (some ⟨b0, off + i, none⟩)), KP.eq (.slice Ae en.length ce), KP.any, KP.eq (.bool false), KP.eq (.bool false), KP.eq (.pointer (some ⟨g', 0, none⟩)), KP.eq (.agg (X.map cb).toArray), KP.eq (.slice (some ⟨b0, off, none⟩) n c0), KP.eq (.int .i64 (i : Int)), KP.eq (.int .i64 ((i + 1 : Nat) : Int)), KP.eq (.slice (some ⟨b0, off, none⟩) (i + 1) c0), KP.eq (.agg (X.map cb).toArray), KP.eq (.bool false), KP.eq (.bool false), KP.eq (.bool false), KP.eq (.pointer (some ⟨g', 0, none⟩)), KP.eq (.int .u64 ((i + 1 : Nat) : Int)), KP.eq (.int .i64 (i : Int)), KP.eq (.int .u64 (i : Int)), KP.eq (.int .u64 ((i + 1 : Nat) : Int)), KP.eq (.bool false), KP.eq (.bool false)] [5] (GK w wr' B' g' (i + 1) st1) ?_ ?_ ?_
          · exact rfl
          · refine allFrom_cons ?_ ?_
            · refine stepK_by (by decide) ?_
              intro f_ a_ w_ hM_ hk_
              have h7 : a_.eval (.tmp 7) = .pointer (some ⟨g', 0, none⟩) := hk_.old 7 (by kernel_rfl)
              have k5 := hk_.later 5 _ (by kernel_rfl) rfl
              clear hk_
              refine flow_plain rfl ?_
              exact gives_move rfl ⟨hM_, h7⟩
            refine allFrom_cons ?_ ?_
            · refine stepK_by (by decide) ?_
              intro f_ a_ w_ hM_ hk_
              have h0 : a_.eval (.tmp 0) = .slice (some ⟨b0, off, none⟩) n c0 := hk_.old 0 (by kernel_rfl)
              have k5 := hk_.later 5 _ (by kernel_rfl) rfl
              clear hk_
              refine flow_plain rfl ?_
              exact gives_move rfl ⟨hM_, h0⟩
            refine allFrom_cons ?_ ?_
            · refine stepK_by (by decide) ?_
              intro f_ a_ w_ hM_ hk_
              have h8 : a_.eval (.tmp 8) = .int .i64 (i : Int) := hk_.old 8 (by kernel_rfl)
              have k5 := hk_.later 5 _ (by kernel_rfl) rfl
              clear hk_
              refine flow_plain rfl ?_
              exact gives_move rfl ⟨hM_, h8⟩
            refine allFrom_cons ?_ ?_
            · refine stepK_by (by decide) ?_
              intro f_ a_ w_ hM_ hk_
              have h42 : a_.eval (.tmp 42) = (.slice (some ⟨b0, off, none⟩) n c0) := hk_.got 1 42 _ (by kernel_rfl) rfl rfl
              have h43 : a_.eval (.tmp 43) = (.int .i64 (i : Int)) := hk_.got 2 43 _ (by kernel_rfl) rfl rfl
              have k5 := hk_.later 5 _ (by kernel_rfl) rfl
              clear hk_
              refine flow_plain rfl ?_
              refine gives_keep hM_ ?_
              unfold gives
              have hc_ : ∀ v, a_.eval (.const v) = v := fun _ => rfl
              have hn_ : ∀ f, a_.eval (.func f) = .func (.func f) #[] #[] := fun _ => rfl
              generalize a_.eval = ρ_ at *
              go_simp
              exact ⟨rfl, rfl⟩
            refine allFrom_cons ?_ ?_
            · refine stepK_by (by decide) ?_
              intro f_ a_ w_ hM_ hk_
              have h44 : a_.eval (.tmp 44) = (.pointer (some ⟨b0, off + i, none⟩)) := hk_.got 3 44 _ (by kernel_rfl) rfl rfl
              have k5 := hk_.later 5 _ (by kernel_rfl) rfl
              clear hk_
              refine flow_plain rfl ?_
              have hM := hM_
              simp only [List.map_cons, List.map_nil, k5] at hM
              refine gives_keep hM_ ?_
              unfold gives
              have hc_ : ∀ v, a_.eval (.const v) = v := fun _ => rfl
              have hn_ : ∀ f, a_.eval (.func f) = .func (.func f) #[] #[] := fun _ => rfl
              have hcell : w_.cell? ⟨b0, off + i, none⟩ = some (.slice Ae en.length ce) := by (rw [show w_ = wr'.drew from hM]; exact HC7.out)
              generalize a_.eval = ρ_ at *
              go_simp
              exact ⟨rfl, rfl⟩
            refine allFrom_cons ?_ ?_
            · intro f_ a_ w_ hM_ hk_
              have h41 : a_.eval (.tmp 41) = (.pointer (some ⟨g', 0, none⟩)) := hk_.got 0 41 _ (by kernel_rfl) rfl rfl
              have h45 : a_.eval (.tmp 45) = (.slice Ae en.length ce) := hk_.got 4 45 _ (by kernel_rfl) rfl rfl
              have k5 : f_ 5 = none := hk_.un
              clear hk_
              simp only [List.map_cons, List.map_nil, k5] at hM_
              simp only [List.map_cons, List.map_nil, upd_same]
              refine flow_plain rfl ?_
              unfold gives
              have hc_ : ∀ v, a_.eval (.const v) = v := fun _ => rfl
              have hn_ : ∀ f, a_.eval (.func f) = .func (.func f) #[] #[] := fun _ => rfl
              generalize a_.eval = ρ_ at *
              go_simp
              have hw_ : w_ = wr'.drew := hM_
              subst hw_
              exact HADD.out.mono fun e w' hh => ⟨_, hh.1, ⟨rfl, hh.2.elim fun A h1 => h1.elim fun c h2 => ⟨A, c, h2.isF⟩, hh.2.elim fun A h1 => h1.elim fun c h2 => (bx_drew hbr6).trans (h2.below.mono hB6)⟩⟩
            refine allFrom_cons ?_ ?_
            · refine stepK_by (by decide) ?_
              intro f_ a_ w_ hM_ hk_
              have k5 := hk_.val 5 46 _ (by kernel_rfl) rfl rfl
              clear hk_
              refine flow_plain rfl ?_
              have hM := hM_
              simp only [List.map_cons, List.map_nil, k5] at hM
              refine gives_keep hM_ ?_
              unfold gives
              have hc_ : ∀ v, a_.eval (.const v) = v := fun _ => rfl
              have hn_ : ∀ f, a_.eval (.func f) = .func (.func f) #[] #[] := fun _ => rfl
              have e5 := hM.1
              generalize a_.eval = ρ_ at *
              go_simp
              exact ⟨rfl, rfl⟩
            refine allFrom_cons ?_ ?_
            · refine stepK_by (by decide) ?_
              intro f_ a_ w_ hM_ hk_
              have h47 : a_.eval (.tmp 47) = (.bool false) := hk_.got 6 47 _ (by kernel_rfl) rfl rfl
              have k5 := hk_.val 5 46 _ (by kernel_rfl) rfl rfl
              clear hk_
              refine flow_plain rfl ?_
              exact gives_move rfl ⟨hM_, h47⟩
            refine allFrom_cons ?_ ?_
            · refine stepK_by (by decide) ?_
              intro f_ a_ w_ hM_ hk_
              have h7 : a_.eval (.tmp 7) = .pointer (some ⟨g', 0, none⟩) := hk_.old 7 (by kernel_rfl)
              have k5 := hk_.val 5 46 _ (by kernel_rfl) rfl rfl
              have hg_ : a_.eval (.tmp 48) = .bool false := hk_.got 7 48 _ (by kernel_rfl) rfl rfl
              have hy_ := hk_.want 7 _ 48 false rfl rfl hg_
              clear hk_
              refine flow_want rfl hy_ ?_
              exact gives_move rfl ⟨hM_, h7⟩
            refine allFrom_cons ?_ ?_
            · refine stepK_by (by decide) ?_
              intro f_ a_ w_ hM_ hk_
              have h49 : a_.eval (.tmp 49) = (.pointer (some ⟨g', 0, none⟩)) := hk_.got 8 49 _ (by kernel_rfl) rfl rfl
              have k5 := hk_.val 5 46 _ (by kernel_rfl) rfl rfl
              have hg_ : a_.eval (.tmp 48) = .bool false := hk_.got 7 48 _ (by kernel_rfl) rfl rfl
              have hy_ := hk_.want 7 _ 48 false rfl rfl hg_
              clear hk_
              refine flow_want rfl hy_ ?_
              have hM := hM_
              simp only [List.map_cons, List.map_nil, k5] at hM
              have hM0 := hM
              obtain ⟨e5, ⟨A8, c8, hF8⟩, hb8⟩ := hM
              rw [e5] at hM0
              unfold gives
              have hc_ : ∀ v, a_.eval (.const v) = v := fun _ => rfl
              have hn_ : ∀ f, a_.eval (.func f) = .func (.func f) #[] #[] := fun _ => rfl
              generalize a_.eval = ρ_ at *
              go_simp
              exact (FRoot_any w_ (HL.out.below hb8) hF8 HON1.out (by omega)).mono fun e w' hh => ⟨_, hh.1, hM0.below hh.2, by rw [HFR.out]⟩
            refine allFrom_cons ?_ ?_
            · refine stepK_by (by decide) ?_
              intro f_ a_ w_ hM_ hk_
              have h0 : a_.eval (.tmp 0) = .slice (some ⟨b0, off, none⟩) n c0 := hk_.old 0 (by kernel_rfl)
              have k5 := hk_.val 5 46 _ (by kernel_rfl) rfl rfl
              have hg_ : a_.eval (.tmp 48) = .bool false := hk_.got 7 48 _ (by kernel_rfl) rfl rfl
              have hy_ := hk_.want 7 _ 48 false rfl rfl hg_
              clear hk_
              refine flow_want rfl hy_ ?_
              exact gives_move rfl ⟨hM_, h0⟩
            refine allFrom_cons ?_ ?_
            · refine stepK_by (by decide) ?_
              intro f_ a_ w_ hM_ hk_
              have h8 : a_.eval (.tmp 8) = .int .i64 (i : Int) := hk_.old 8 (by kernel_rfl)
              have k5 := hk_.val 5 46 _ (by kernel_rfl) rfl rfl
              have hg_ : a_.eval (.tmp 48) = .bool false := hk_.got 7 48 _ (by kernel_rfl) rfl rfl
              have hy_ := hk_.want 7 _ 48 false rfl rfl hg_
              clear hk_
              refine flow_want rfl hy_ ?_
              exact gives_move rfl ⟨hM_, h8⟩
            refine allFrom_cons ?_ ?_
            · refine stepK_by (by decide) ?_
              intro f_ a_ w_ hM_ hk_
              have h52 : a_.eval (.tmp 52) = (.int .i64 (i : Int)) := hk_.got 11 52 _ (by kernel_rfl) rfl rfl
              have k5 := hk_.val 5 46 _ (by kernel_rfl) rfl rfl
              have hg_ : a_.eval (.tmp 48) = .bool false := hk_.got 7 48 _ (by kernel_rfl) rfl rfl
              have hy_ := hk_.want 7 _ 48 false rfl rfl hg_
              clear hk_
              refine flow_want rfl hy_ ?_
              have hM := hM_
              simp only [List.map_cons, List.map_nil, k5] at hM
              refine gives_keep hM_ ?_
              unfold gives
              have hc_ : ∀ v, a_.eval (.const v) = v := fun _ => rfl
              have hn_ : ∀ f, a_.eval (.func f) = .func (.func f) #[] #[] := fun _ => rfl
              clear hy_ hg_
              generalize a_.eval = ρ_ at *
              go_simp
              first | exact ⟨rfl, rfl⟩ | exact ⟨rfl, congrArg (Value.int _) (by rw [wr_i64 _ (by omega) (by omega)])⟩ | exact ⟨rfl, congrArg (Value.int _) (by rw [wr_i64 _ (by omega) (by omega)]; rfl)⟩
            refine allFrom_cons ?_ ?_
            · refine stepK_by (by decide) ?_
              intro f_ a_ w_ hM_ hk_
              have h51 : a_.eval (.tmp 51) = (.slice (some ⟨b0, off, none⟩) n c0) := hk_.got 10 51 _ (by kernel_rfl) rfl rfl
              have h53 : a_.eval (.tmp 53) = (.int .i64 ((i + 1 : Nat) : Int)) := hk_.got 12 53 _ (by kernel_rfl) rfl rfl
              have k5 := hk_.val 5 46 _ (by kernel_rfl) rfl rfl
              have hg_ : a_.eval (.tmp 48) = .bool false := hk_.got 7 48 _ (by kernel_rfl) rfl rfl
              have hy_ := hk_.want 7 _ 48 false rfl rfl hg_
              clear hk_
              refine flow_want rfl hy_ ?_
              refine gives_keep hM_ ?_
              unfold gives
              have hc_ : ∀ v, a_.eval (.const v) = v := fun _ => rfl
              have hn_ : ∀ f, a_.eval (.func f) = .func (.func f) #[] #[] := fun _ => rfl
              clear hy_ hg_
              generalize a_.eval = ρ_ at *
              go_simp
              exact ⟨rfl, rfl⟩
            refine allFrom_cons ?_ ?_
            · refine stepK_by (by decide) ?_
              intro f_ a_ w_ hM_ hk_
              have h54 : a_.eval (.tmp 54) = (.slice (some ⟨b0, off, none⟩) (i + 1) c0) := hk_.got 13 54 _ (by kernel_rfl) rfl rfl
              have k5 := hk_.val 5 46 _ (by kernel_rfl) rfl rfl
              have hg_ : a_.eval (.tmp 48) = .bool false := hk_.got 7 48 _ (by kernel_rfl) rfl rfl
              have hy_ := hk_.want 7 _ 48 false rfl rfl hg_
              clear hk_
              refine flow_want rfl hy_ ?_
              have hM := hM_
              simp only [List.map_cons, List.map_nil, k5] at hM
              have hM0 := hM
              obtain ⟨e5, ⟨A8, c8, hF8⟩, hb8⟩ := hM
              rw [e5] at hM0
              unfold gives
              have hc_ : ∀ v, a_.eval (.const v) = v := fun _ => rfl
              have hn_ : ∀ f, a_.eval (.func f) = .func (.func f) #[] #[] := fun _ => rfl
              generalize a_.eval = ρ_ at *
              go_simp
              exact (Root_any (i + 1) w_ (ls.take (i + 1)) (i + 1) (some ⟨b0, off, none⟩) c0 w.heap.size HTI1.out (Nat.le_refl _) (HL.out.below hb8) (HRT.out.below hb8) hb8.size hi1c (by omega) HMT.out).mono fun e w' hh => ⟨_, hh.1, hM0.below hh.2, by rw [HX.out]⟩
            refine allFrom_cons ?_ ?_
            · refine stepK_by (by decide) ?_
              intro f_ a_ w_ hM_ hk_
              have h50 : a_.eval (.tmp 50) = (.agg (X.map cb).toArray) := hk_.got 9 50 _ (by kernel_rfl) rfl rfl
              have h55 : a_.eval (.tmp 55) = (.agg (X.map cb).toArray) := hk_.got 14 55 _ (by kernel_rfl) rfl rfl
              have k5 := hk_.val 5 46 _ (by kernel_rfl) rfl rfl
              have hg_ : a_.eval (.tmp 48) = .bool false := hk_.got 7 48 _ (by kernel_rfl) rfl rfl
              have hy_ := hk_.want 7 _ 48 false rfl rfl hg_
              clear hk_
              refine flow_want rfl hy_ ?_
              refine gives_keep hM_ ?_
              unfold gives
              have hc_ : ∀ v, a_.eval (.const v) = v := fun _ => rfl
              have hn_ : ∀ f, a_.eval (.func f) = .func (.func f) #[] #[] := fun _ => rfl
              clear hy_ hg_
              generalize a_.eval = ρ_ at *
              go_simp
              exact ⟨rfl, rfl⟩
            refine allFrom_cons ?_ ?_
            · refine stepK_by (by decide) ?_
              intro f_ a_ w_ hM_ hk_
              have h48 : a_.eval (.tmp 48) = (.bool false) := hk_.got 7 48 _ (by kernel_rfl) rfl rfl
              have h56 : a_.eval (.tmp 56) = (.bool false) := hk_.got 15 56 _ (by kernel_rfl) rfl rfl
              have k5 := hk_.val 5 46 _ (by kernel_rfl) rfl rfl
              clear hk_
              refine flow_plain rfl ?_
              exact gives_pick rfl h48 ⟨hM_, h56⟩
            refine allFrom_cons ?_ ?_
            · refine stepK_by (by decide) ?_
              intro f_ a_ w_ hM_ hk_
              have h57 : a_.eval (.tmp 57) = (.bool false) := hk_.got 16 57 _ (by kernel_rfl) rfl rfl
              have k5 := hk_.val 5 46 _ (by kernel_rfl) rfl rfl
              clear hk_
              refine flow_plain rfl ?_
              exact gives_move rfl ⟨hM_, h57⟩
            refine allFrom_cons ?_ ?_
            · refine stepK_by (by decide) ?_
              intro f_ a_ w_ hM_ hk_
              have h7 : a_.eval (.tmp 7) = .pointer (some ⟨g', 0, none⟩) := hk_.old 7 (by kernel_rfl)
              have k5 := hk_.val 5 46 _ (by kernel_rfl) rfl rfl
              have hg_ : a_.eval (.tmp 58) = .bool false := hk_.got 17 58 _ (by kernel_rfl) rfl rfl
              have hy_ := hk_.want 17 _ 58 false rfl rfl hg_
              clear hk_
              refine flow_want rfl hy_ ?_
              exact gives_move rfl ⟨hM_, h7⟩
            refine allFrom_cons ?_ ?_
            · refine stepK_by (by decide) ?_
              intro f_ a_ w_ hM_ hk_
              have h59 : a_.eval (.tmp 59) = (.pointer (some ⟨g', 0, none⟩)) := hk_.got 18 59 _ (by kernel_rfl) rfl rfl
              have k5 := hk_.val 5 46 _ (by kernel_rfl) rfl rfl
              have hg_ : a_.eval (.tmp 58) = .bool false := hk_.got 17 58 _ (by kernel_rfl) rfl rfl
              have hy_ := hk_.want 17 _ 58 false rfl rfl hg_
              clear hk_
              refine flow_want rfl hy_ ?_
              have hM := hM_
              simp only [List.map_cons, List.map_nil, k5] at hM
              have hM0 := hM
              obtain ⟨e5, ⟨A8, c8, hF8⟩, hb8⟩ := hM
              rw [e5] at hM0
              unfold gives
              have hc_ : ∀ v, a_.eval (.const v) = v := fun _ => rfl
              have hn_ : ∀ f, a_.eval (.func f) = .func (.func f) #[] #[] := fun _ => rfl
              generalize a_.eval = ρ_ at *
              go_simp
              exact (Size_any w_ hF8).mono fun e w' hh => ⟨_, hh.1, by rw [hh.2]; exact hM0, rfl⟩
            refine allFrom_cons ?_ ?_
            · refine stepK_by (by decide) ?_
              intro f_ a_ w_ hM_ hk_
              have h8 : a_.eval (.tmp 8) = .int .i64 (i : Int) := hk_.old 8 (by kernel_rfl)
              have k5 := hk_.val 5 46 _ (by kernel_rfl) rfl rfl
              have hg_ : a_.eval (.tmp 58) = .bool false := hk_.got 17 58 _ (by kernel_rfl) rfl rfl
              have hy_ := hk_.want 17 _ 58 false rfl rfl hg_
              clear hk_
              refine flow_want rfl hy_ ?_
              exact gives_move rfl ⟨hM_, h8⟩
            refine allFrom_cons ?_ ?_
            · refine stepK_by (by decide) ?_
              intro f_ a_ w_ hM_ hk_
              have h61 : a_.eval (.tmp 61) = (.int .i64 (i : Int)) := hk_.got 20 61 _ (by kernel_rfl) rfl rfl
              have k5 := hk_.val 5 46 _ (by kernel_rfl) rfl rfl
              have hg_ : a_.eval (.tmp 58) = .bool false := hk_.got 17 58 _ (by kernel_rfl) rfl rfl
              have hy_ := hk_.want 17 _ 58 false rfl rfl hg_
              clear hk_
              refine flow_want rfl hy_ ?_
              refine gives_keep hM_ ?_
              unfold gives
              have hc_ : ∀ v, a_.eval (.const v) = v := fun _ => rfl
              have hn_ : ∀ f, a_.eval (.func f) = .func (.func f) #[] #[] := fun _ => rfl
              clear hy_ hg_
              generalize a_.eval = ρ_ at *
              go_simp
              exact ⟨rfl, rfl⟩
            refine allFrom_cons ?_ ?_
            · refine stepK_by (by decide) ?_
              intro f_ a_ w_ hM_ hk_
              have h62 : a_.eval (.tmp 62) = (.int .u64 (i : Int)) := hk_.got 21 62 _ (by kernel_rfl) rfl rfl
              have k5 := hk_.val 5 46 _ (by kernel_rfl) rfl rfl
              have hg_ : a_.eval (.tmp 58) = .bool false := hk_.got 17 58 _ (by kernel_rfl) rfl rfl
              have hy_ := hk_.want 17 _ 58 false rfl rfl hg_
              clear hk_
              refine flow_want rfl hy_ ?_
              have hM := hM_
              simp only [List.map_cons, List.map_nil, k5] at hM
              refine gives_keep hM_ ?_
              unfold gives
              have hc_ : ∀ v, a_.eval (.const v) = v := fun _ => rfl
              have hn_ : ∀ f, a_.eval (.func f) = .func (.func f) #[] #[] := fun _ => rfl
              clear hy_ hg_
              generalize a_.eval = ρ_ at *
              go_simp
              first | exact ⟨rfl, rfl⟩ | exact ⟨rfl, congrArg (Value.int _) (by rw [show (i : Int) + 1 = ((i + 1 : Nat) : Int) from rfl, wr_u64 (by omega)])⟩
            refine allFrom_cons ?_ ?_
            · refine stepK_by (by decide) ?_
              intro f_ a_ w_ hM_ hk_
              have h60 : a_.eval (.tmp 60) = (.int .u64 ((i + 1 : Nat) : Int)) := hk_.got 19 60 _ (by kernel_rfl) rfl rfl
              have h63 : a_.eval (.tmp 63) = (.int .u64 ((i + 1 : Nat) : Int)) := hk_.got 22 63 _ (by kernel_rfl) rfl rfl
              have k5 := hk_.val 5 46 _ (by kernel_rfl) rfl rfl
              have hg_ : a_.eval (.tmp 58) = .bool false := hk_.got 17 58 _ (by kernel_rfl) rfl rfl
              have hy_ := hk_.want 17 _ 58 false rfl rfl hg_
              clear hk_
              refine flow_want rfl hy_ ?_
              refine gives_keep hM_ ?_
              unfold gives
              have hc_ : ∀ v, a_.eval (.const v) = v := fun _ => rfl
              have hn_ : ∀ f, a_.eval (.func f) = .func (.func f) #[] #[] := fun _ => rfl
              clear hy_ hg_
              generalize a_.eval = ρ_ at *
              go_simp
              exact ⟨rfl, rfl⟩
            refine allFrom_cons ?_ ?_
            · refine stepK_by (by decide) ?_
              intro f_ a_ w_ hM_ hk_
              have h58 : a_.eval (.tmp 58) = (.bool false) := hk_.got 17 58 _ (by kernel_rfl) rfl rfl
              have h64 : a_.eval (.tmp 64) = (.bool false) := hk_.got 23 64 _ (by kernel_rfl) rfl rfl
              have k5 := hk_.val 5 46 _ (by kernel_rfl) rfl rfl
              clear hk_
              refine flow_plain rfl ?_
              exact gives_pick rfl h58 ⟨hM_, h64⟩
            exact allFrom_nil
          intro f_ y_ w_ hM_ hf_ hd_
          have h41 : f_ 41 = (.pointer (some ⟨g', 0, none⟩)) := (hf_ 0 41 _ (by decide) rfl rfl).1
          have h42 : f_ 42 = (.slice (some ⟨b0, off, none⟩) n c0) := (hf_ 1 42 _ (by decide) rfl rfl).1
          have h43 : f_ 43 = (.int .i64 (i : Int)) := (hf_ 2 43 _ (by decide) rfl rfl).1
          have h44 : f_ 44 = (.pointer (some ⟨b0, off + i, none⟩)) := (hf_ 3 44 _ (by decide) rfl rfl).1
          have h45 : f_ 45 = (.slice Ae en.length ce) := (hf_ 4 45 _ (by decide) rfl rfl).1
          have k5 := (hf_ 5 46 _ (by decide) rfl rfl).2
          have h47 : f_ 47 = (.bool false) := (hf_ 6 47 _ (by decide) rfl rfl).1
          have h48 : f_ 48 = (.bool false) := (hf_ 7 48 _ (by decide) rfl rfl).1
          have h49 : f_ 49 = (.pointer (some ⟨g', 0, none⟩)) := (hf_ 8 49 _ (by decide) rfl rfl).1
          have h50 : f_ 50 = (.agg (X.map cb).toArray) := (hf_ 9 50 _ (by decide) rfl rfl).1
          have h51 : f_ 51 = (.slice (some ⟨b0, off, none⟩) n c0) := (hf_ 10 51 _ (by decide) rfl rfl).1
          have h52 : f_ 52 = (.int .i64 (i : Int)) := (hf_ 11 52 _ (by decide) rfl rfl).1
          have h53 : f_ 53 = (.int .i64 ((i + 1 : Nat) : Int)) := (hf_ 12 53 _ (by decide) rfl rfl).1
          have h54 : f_ 54 = (.slice (some ⟨b0, off, none⟩) (i + 1) c0) := (hf_ 13 54 _ (by decide) rfl rfl).1
          have h55 : f_ 55 = (.agg (X.map cb).toArray) := (hf_ 14 55 _ (by decide) rfl rfl).1
          have h56 : f_ 56 = (.bool false) := (hf_ 15 56 _ (by decide) rfl rfl).1
          have h57 : f_ 57 = (.bool false) := (hf_ 16 57 _ (by decide) rfl rfl).1
          have h58 : f_ 58 = (.bool false) := (hf_ 17 58 _ (by decide) rfl rfl).1
          have h59 : f_ 59 = (.pointer (some ⟨g', 0, none⟩)) := (hf_ 18 59 _ (by decide) rfl rfl).1
          have h60 : f_ 60 = (.int .u64 ((i + 1 : Nat) : Int)) := (hf_ 19 60 _ (by decide) rfl rfl).1
          have h61 : f_ 61 = (.int .i64 (i : Int)) := (hf_ 20 61 _ (by decide) rfl rfl).1
          have h62 : f_ 62 = (.int .u64 (i : Int)) := (hf_ 21 62 _ (by decide) rfl rfl).1
          have h63 : f_ 63 = (.int .u64 ((i + 1 : Nat) : Int)) := (hf_ 22 63 _ (by decide) rfl rfl).1
          have h64 : f_ 64 = (.bool false) := (hf_ 23 64 _ (by decide) rfl rfl).1
          have h65 : f_ 65 = (.bool false) := (hf_ 24 65 _ (by decide) rfl rfl).1
          simp only [List.map_cons, List.map_nil, k5] at hM_
          simp only [mix, List.drop_succ_cons, List.drop_zero, h41, h42, h43, h44, h45, h47, h48, h49, h50, h51, h52, h53, h54, h55, h56, h57, h58, h59, h60, h61, h62, h63, h64, h65]
          clear hf_ hd_ h41 h42 h43 h44 h45 h47 h48 h49 h50 h51 h52 h53 h54 h55 h56 h57 h58 h59 h60 h61 h62 h63 h64 h65 k5
          obtain ⟨e5, ⟨A8, c8, hF8⟩, hb8⟩ := hM_
          have HF8 := hid hF8
          have HB8 := hid hb8
          clear hF8 hb8 e5 HADD HC7
          go_wp2_with fail
          go_roundw
          case rel => exact ⟨i + 1, g', B', A8, c8, by rw [← HN.out]; omega, rfl, by go_num, by rw [HST1.out]; exact HF8.out, hB6, HB8.out⟩
          case measure => simp [intOf]; omega
      · obtain rfl : i = n := by omega
        have hta : ls.take i = ls := by rw [HN.out, List.take_length]
        rw [hta] at hF
        have hon : (frs ls).length = ones i := by rw [(stk_frs ls).2, ← HN.out]
        have hfr := froot_frs ls
        have hx32 := treeR_len ls
        have q := eq_hash (treeR ls) (treeR ls) hx32 hx32
        rw [show (treeR ls == treeR ls) = true from by simp] at q
        have HF := hid hF
        have HFR := hid hfr
        have HON := hid hon
        generalize hX : treeR ls = X at *
        have HX := hid hX
        clear hta hF hfr hX hon hlt
        go_wp2_with fail
        refine (FRoot_any wr (HL.out.below hbr) HF.out HON.out (by omega)).mono ?_
        rintro e w4 ⟨rfl, hb4⟩
        rw [HFR.out]
        have hbr4 := bx_trans hbr hb4
        go_wp2_with fail
        refine (Root_any i w4 ls i A0 c0 w.heap.size HN.out.symm (Nat.le_refl _) (HL.out.below hbr4) (HR.out.below hbr4) hbr4.size hc (by omega) HLEN.out).mono ?_
        rintro e w5 ⟨rfl, hb5⟩
        rw [HX.out]
        have hbr5 := bx_trans hbr4 hb5
        go_wp2
        go_ret
        exact ⟨rfl, hbr5⟩
end Go.Proofs.YtohkfnmggmlogaaDoor
