
/- FrontierOwn: its walk. -/
import Derived.Test.YtohkfnmggmlogaaDoorFrR
import Derived.OpenShut
namespace Go.Proofs.YtohkfnmggmlogaaDoor
open Go.RowKit
set_option linter.unusedVariables false
/-- What a round of the first loop keeps: the first entries have come. -/
def LRel5 (w : World) (ls : List (List UInt8)) (g B : Nat) (v8 : Value) (wr : World) : Prop :=
  ∃ (i : Nat) (A : Option Addr) (c : Nat), i ≤ ls.length ∧ v8 = .int .i64 (i : Int) ∧ IsF wr B g i (frs (ls.take i)) A c ∧ Below w.heap.size w wr
theorem IsF.put {w w1 : World} {B g n gp t : Nat} {st : List (List UInt8)} {A : Option Addr} {c : Nat} {cs : Array Value} (h : IsF w B g n st A c) (hp : Put w w1 gp t cs) (h1 : g ≠ gp) (h2 : (Value.slice A st.length c).ownBlock ≠ some gp) : IsF w1 B g n st A c :=
  ⟨hp.other h.blk h1, own_other h.own hp h2, h.gB, h.ok⟩
set_option maxRecDepth 100000 in
set_option maxHeartbeats 1000000 in
theorem FrontierOwn_walk (w : World) (hL : Laid w) (A0 : Option Addr) (c0 : Nat) (ls : List (List UInt8)) (hc : ls.length ≤ c0) (hm : c0 ≤ maxLen) (hs : ∀ l ∈ ls, l.length ≤ maxLen) (hr : RdBB w w.heap.size A0 ls) (more : Int) (hmore : (Lit.int .u8 more).wf = true) :
    Calls Tryd.prog 7 #[.slice A0 ls.length c0, .int .u8 more] w fun e w' => e = .returned (.bool true) ∧ Below w.heap.size w w' := by
  have hba := bounds_u8 hmore
  obtain ⟨a, rfl⟩ := Int.eq_ofNat_of_zero_le hba.1
  have ha : a < 256 := by omega
  have HL := hid hL
  have HR := hid hr
  clear hL hr hs hmore hba
  go_enter Tryd.func7, Tryd.ntmps7
  go_wp2_with fail
  refine (frAwake w HL.out).mono ?_
  rintro e w1 ⟨rfl, hb1⟩
  go_wp2_with fail
  refine (few_any w1 ((HR.out.below hb1).more hb1.size) hc hm).mono ?_
  rintro e w2 ⟨rfl, rfl⟩
  cases hf : fewB ls with
  | false =>
    clear hf
    go_wp2
    go_ret
    exact ⟨rfl, hb1⟩
  | true =>
    obtain ⟨h20, hlen⟩ := fewB_len hf
    have HLEN := hid hlen
    have H60 := hid (fewB_60 hf)
    obtain ⟨n, hn⟩ : ∃ n, n = ls.length := ⟨_, rfl⟩
    have HN := hid hn
    rw [← hn] at h20 hc ⊢
    clear hf hlen hn
    by_cases hn0 : n = 0
    · have hn0' : ((n : Int) == 0) = true := by simp; omega
      clear hn0
      go_wp2
      go_ret
      exact ⟨rfl, hb1⟩
    have hn0' : ((n : Int) == 0) = false := by simp; omega
    by_cases ha0 : a = 0
    · have ha0' : ((a : Int) == 0) = true := by simp; omega
      clear ha0
      go_wp2
      go_ret
      exact ⟨rfl, hb1⟩
    have ha0' : ((a : Int) == 0) = false := by simp; omega
    clear ha0
    go_wp2_with fail
    refine (New_any _).mono ?_
    rintro e w3 ⟨g, rfl, hF3, hb3⟩
    have HF3 := hid hF3
    have hb03 := bx_trans hb1 hb3
    obtain ⟨B, hBe⟩ : ∃ B, B = w1.heap.size := ⟨_, rfl⟩
    have hB : w.heap.size ≤ B := by rw [hBe]; exact hb1.size
    rw [← hBe] at HF3
    clear hF3 hb3 hb1 hBe
    go_wp2
    go_loopw [8] (fun v8 wr => LRel5 w ls g B v8 wr) (fun v8 _ => n - (intOf v8).toNat)
    case atStart => exact ⟨0, none, 0, Nat.zero_le _, rfl, HF3.out, hb03⟩
    case round =>
      clear hb03 HF3
      obtain ⟨i, A, c, hi, rfl, hF, hbr⟩ := hrel
      rename World => wr
      rw [← HN.out] at hi
      by_cases hlt : i < n
      · obtain ⟨b0, off, Ae, ce, rfl, hbB, hcell, hle1, hrde⟩ := HR.out.at_ (k := i) (by rw [← HN.out]; exact hlt)
        have htk : ls.take (i + 1) = ls.take i ++ [ls[i]'(by rw [← HN.out]; exact hlt)] := List.take_succ_eq_append_getElem _
        have h60 := H60.out _ (List.getElem_mem (show i < ls.length by rw [← HN.out]; exact hlt))
        have hti : (ls.take i).length = i := by rw [List.length_take, ← HN.out]; omega
        have hfs : frs (ls.take (i + 1)) = fadd i (frs (ls.take i)) (leafL (ls[i]'(by rw [← HN.out]; exact hlt))) := by rw [htk, frs_snoc, hti]
        have hon : (frs (ls.take i)).length = ones i := by rw [(stk_frs _).2, hti]
        have hcell' := (hbr.cell (p := ⟨b0, off + i, none⟩) hbB).trans hcell
        have hrde' := (hrde.below hbr).more hbr.size
        have hgl := hF.blk.lt
        have hgB := hF.gB
        have HADD := hid (Add_any wr (w0 := w) HL.out hbr hB hF (by omega) hon (by omega) hrde' (Nat.le_refl _) hle1 (by omega))
        rw [← hfs] at HADD
        have hin : (i : Int) < (n : Int) := by omega
        clear htk hti hfs hon hcell hrde hrde' hF
        generalize hST1 : frs (ls.take (i + 1)) = st1 at *
        have HST1 := hid hST1
        clear hST1
        generalize ls[i]'(by rw [← HN.out]; exact hlt) = en at *
        generalize frs (ls.take i) = st at *
        go_wp2_with fail
        refine HADD.out.mono ?_
        rintro e w4 ⟨rfl, A4, c4, hgo⟩
        have hF4 := hgo.isF
        have hb4 := hbr.trans (hgo.below.mono hB)
        have HF4 := hid hF4
        clear hgo hF4 hcell'
        go_wp2_with fail
        go_roundw
        case rel => exact ⟨i + 1, A4, c4, by rw [← HN.out]; omega, by go_num, by rw [HST1.out]; exact HF4.out, hb4⟩
        case measure => simp [intOf]; omega
      · obtain rfl : i = n := by omega
        have hta : ls.take i = ls := by rw [HN.out, List.take_length]
        rw [hta] at hF
        have hon : (frs ls).length = ones i := by rw [(stk_frs ls).2, ← HN.out]
        have hol := ones_le 5 i (by omega)
        have HF := hid hF
        have HON := hid hon
        have hm1 : 1 ≤ (frs ls).length := by
          rw [hon]
          have key : ∀ m n : Nat, n ≤ m → n ≠ 0 → 1 ≤ ones n := by
            intro m
            induction m with
            | zero => intro n h1 h2; omega
            | succ m ih =>
              intro n h1 h2
              have := ones_eq n
              by_cases h4 : n / 2 = 0
              · omega
              · have := ih (n / 2) (by omega) h4
                omega
          exact key i i (Nat.le_refl _) hn0
        have hm5 : (frs ls).length ≤ 5 := by omega
        have h32 := hF.ok
        have H32 := hid h32
        clear hta hF hon hol hlt hi hn0
        generalize frs ls = st at *
        obtain ⟨m, hm'⟩ : ∃ m, m = st.length := ⟨_, rfl⟩
        have HM := hid hm'
        rw [← hm'] at hm1 hm5
        clear hm'
        have hfl := froot_len st h32
        have hq := eq_hash (froot st) (froot st) hfl hfl
        rw [show (froot st == froot st) = true from by simp] at hq
        have hax := aggHL hfl
        have HFR := hid (fun (w' : World) (B' g' : Nat) (A' : Option Addr) (c' : Nat) (hb : Below w.heap.size w w') (hF : IsF w' B' g' i st A' c') => FRoot_any w' (HL.out.below hb) hF HON.out (by omega))
        generalize hR : froot st = R at *
        clear hR
        go_wp2_with fail
        refine (HFR.out wr B g A c hbr HF.out).mono ?_
        rintro e w4 ⟨rfl, hb4⟩
        have HF4 := hid (HF.out.below hb4)
        go_wp2_with (first
          | ((with_reducible refine wpAtC ?_); refine wpList_alloc (w := w4) rfl _ rfl zeroH ?_; intro g9 w5 hg9 hg9' hz9 hb5; simp only [Act.put, List.setIfInBounds_toArray, List.set_cons_succ, List.set_cons_zero])
          | ((with_reducible refine wpAtC ?_); refine wpList_store_agg rfl _ _ _ rfl _ _ rfl (R.map cb).toArray rfl (aggHS hfl) hz9 (szH hfl) (one_cbA R) ?_; intro w6 hp6; simp only [Act.put]; rw [splH hfl] at hp6))
        have hb46 := hb5.trans (hp6.below hg9)
        have HF6 := hid (HF4.out.below hb46)
        have hR6 := hp6.blk
        have hbr6 := bx_trans (bx_trans hbr hb4) hb46
        clear hb46 hb5 hz9 hp6 hb4 HF4
        refine (Peaks_any w6 HF6.out (by have := HM.out; omega)).mono ?_
        rintro e w7 ⟨v7, rfl, hown7, hb7⟩
        rw [← HM.out] at hown7
        have HF7 := hid (HF6.out.below hb7)
        have hR7 := hR6.below hb7 hR6.lt
        have hbr7 := bx_trans hbr6 hb7
        obtain ⟨gp, cp, rfl, hgp, hgpl, hcp, hcpm⟩ := own_block hown7 (by omega)
        have hrd7 := own_rd hown7
        have hfo : ∀ k, (Value.slice A st.length c).ownBlock = some k → k < w6.heap.size := fun k hk => (HF6.out.own.lt k hk).2
        have hgl : g < w6.heap.size := HF6.out.blk.lt
        have hg9l : g9 < w6.heap.size := hR6.lt
        go_wp2_with fail
        refine (Size_any w7 HF7.out).mono ?_
        rintro e w8 ⟨rfl, rfl⟩
        go_wp2_with fail
        refine (From_ok w8 (some ⟨gp, 0, none⟩) cp i m (hs := st.reverse) (by omega) (by omega) (by rw [HM.out, HON.out]) (by rw [List.length_reverse, HM.out]) hrd7 (fun p hp => H32.out p (List.mem_reverse.1 hp))).mono ?_
        rintro e w10 ⟨g11, A11, c11, rfl, hF11, hb10⟩
        rw [List.reverse_reverse] at hF11
        have HF11 := hid hF11
        have HF10 := hid (HF7.out.below hb10)
        have hR10 := hR7.below hb10 hR7.lt
        have hbr10 := bx_trans hbr7 hb10
        have hown10 := own_keep hown7 hb10
        have hg11 := hF11.gB
        have hfo11 : ∀ k, (Value.slice A11 st.length c11).ownBlock = some k → w8.heap.size ≤ k := fun k hk => (HF11.out.own.lt k hk).1
        have hsz810 := hb10.size
        have hsz68 := hb7.size
        obtain ⟨cur, hcur, hcell0⟩ : ∃ cur : Array Value, Blk w10 gp tHa cur ∧ ∃ b0 : UInt8, w10.cell? ⟨gp, 0, none⟩ = some (cb b0) := by
          rcases hown10.2 with ⟨e1, _⟩ | ⟨g', cap', cur, e1, hb, hh, hn', hm', hs', ht'⟩
          · injection e1 with e1; cases e1
          · injection e1 with e1
            injection e1 with e1
            injection e1 with e1
            subst e1
            refine ⟨cur, hh, ?_⟩
            have hl := hown10.1
            obtain ⟨x, xs, hx⟩ : ∃ x xs, st.reverse.flatten = x :: xs := by
              cases hf : st.reverse.flatten with
              | nil => rw [hf] at hl; simp at hl; omega
              | cons x xs => exact ⟨x, xs, rfl⟩
            refine ⟨x, ?_⟩
            rcases own_rd hown10 with h | ⟨b', off', he, _, hc'⟩
            · rw [hx] at h; cases h
            · injection he with he
              injection he with e2 e3
              subst e2 e3
              have := hc' 0 (cb x) (by rw [hx]; rfl)
              simpa using this
        obtain ⟨x0, hcell0⟩ := hcell0
        have hgpl10 : gp < w10.heap.size := hcur.lt
        have hm0 : 0 < m := by omega
        have hfz := hcur.frozen 0
        unfold cb at hcell0
        clear hF11 hown7 hrd7 hb10 HF7 hR7 hb7 hown10
        go_wp2_with fail
        refine wp_flow (by kernel_rfl) [0, 1, 3, 7, 0, 31, 1, 127, 255] 8 [false, false, false, false, false, false, false, false, false, false, false, false, false, false, false, false, false, false, false, false, false, false, false, false, false, false, false, false, false, false, false, false, false, false, false, false, false, false, false, false, false, false, false, false, false, false, false, false, false, false, false, false, false, false, false, false, false, false, false, false, true, true, true, true, true, true, true, true] (by kernel_rfl) (by decide) (by kernel_rfl) [FP.eq (.slice (some ⟨gp, 0, none⟩) m cp), FP.eq (.pointer (some ⟨gp, 0, none⟩)), FP.eq (.pointer (some ⟨gp, 0, none⟩)), FP.eq (.int .u8 (x0.toNat : Int)), FP.eq (.int .u8 (a : Int)), FP.eq (.int .u8 (bits BinOp.xor IntKind.u8 (x0.toNat : Int) (a : Int))), FP.eq (.pointer (some ⟨gp, 0, none⟩)), FP.eq (.pointer (some ⟨gp, 0, none⟩))] ?_ ?_
        · refine allFrom_cons ?_ ?_
          · intro a_ w_ hk_
            have h10 : a_.eval (.tmp 10) = .slice (some ⟨gp, 0, none⟩) m cp := hk_.old 10 (by kernel_rfl)
            have hx_ := hk_.ext
            clear hk_
            refine flow_plain rfl ?_
            exact gives_move rfl ⟨Below.refl _ _, h10⟩
          refine allFrom_cons ?_ ?_
          · intro a_ w_ hk_
            have h60 : a_.eval (.tmp 60) = (.slice (some ⟨gp, 0, none⟩) m cp) := hk_.got 0 60 _ (by kernel_rfl) rfl rfl
            have hx_ := hk_.ext
            clear hk_
            refine flow_plain rfl ?_
            unfold gives
            have hc_ : ∀ v, a_.eval (.const v) = v := fun _ => rfl
            have hn_ : ∀ f, a_.eval (.func f) = .func (.func f) #[] #[] := fun _ => rfl
            generalize a_.eval = ρ_ at *
            go_simp
            exact ⟨Below.refl _ _, rfl⟩
          refine allFrom_cons ?_ ?_
          · intro a_ w_ hk_
            have h61 : a_.eval (.tmp 61) = (.pointer (some ⟨gp, 0, none⟩)) := hk_.got 1 61 _ (by kernel_rfl) rfl rfl
            have hx_ := hk_.ext
            clear hk_
            refine flow_plain rfl ?_
            unfold gives
            have hc_ : ∀ v, a_.eval (.const v) = v := fun _ => rfl
            have hn_ : ∀ f, a_.eval (.func f) = .func (.func f) #[] #[] := fun _ => rfl
            generalize a_.eval = ρ_ at *
            go_simp
            exact ⟨Below.refl _ _, rfl⟩
          refine allFrom_cons ?_ ?_
          · intro a_ w_ hk_
            have h62 : a_.eval (.tmp 62) = (.pointer (some ⟨gp, 0, none⟩)) := hk_.got 2 62 _ (by kernel_rfl) rfl rfl
            have hx_ := hk_.ext
            clear hk_
            refine flow_plain rfl ?_
            unfold gives
            have hc_ : ∀ v, a_.eval (.const v) = v := fun _ => rfl
            have hn_ : ∀ f, a_.eval (.func f) = .func (.func f) #[] #[] := fun _ => rfl
            have hcell := (hx_.cell (p := ⟨gp, 0, none⟩) hgpl10).trans hcell0
            generalize a_.eval = ρ_ at *
            go_simp
            exact ⟨Below.refl _ _, rfl⟩
          refine allFrom_cons ?_ ?_
          · intro a_ w_ hk_
            have h1 : a_.eval (.tmp 1) = .int .u8 (a : Int) := hk_.old 1 (by kernel_rfl)
            have hx_ := hk_.ext
            clear hk_
            refine flow_plain rfl ?_
            exact gives_move rfl ⟨Below.refl _ _, h1⟩
          refine allFrom_cons ?_ ?_
          · intro a_ w_ hk_
            have h63 : a_.eval (.tmp 63) = (.int .u8 (x0.toNat : Int)) := hk_.got 3 63 _ (by kernel_rfl) rfl rfl
            have h64 : a_.eval (.tmp 64) = (.int .u8 (a : Int)) := hk_.got 4 64 _ (by kernel_rfl) rfl rfl
            have hx_ := hk_.ext
            clear hk_
            refine flow_plain rfl ?_
            unfold gives
            have hc_ : ∀ v, a_.eval (.const v) = v := fun _ => rfl
            have hn_ : ∀ f, a_.eval (.func f) = .func (.func f) #[] #[] := fun _ => rfl
            generalize a_.eval = ρ_ at *
            go_simp
            exact ⟨Below.refl _ _, rfl⟩
          refine allFrom_cons ?_ ?_
          · intro a_ w_ hk_
            have h60 : a_.eval (.tmp 60) = (.slice (some ⟨gp, 0, none⟩) m cp) := hk_.got 0 60 _ (by kernel_rfl) rfl rfl
            have hx_ := hk_.ext
            clear hk_
            refine flow_plain rfl ?_
            unfold gives
            have hc_ : ∀ v, a_.eval (.const v) = v := fun _ => rfl
            have hn_ : ∀ f, a_.eval (.func f) = .func (.func f) #[] #[] := fun _ => rfl
            generalize a_.eval = ρ_ at *
            go_simp
            exact ⟨Below.refl _ _, rfl⟩
          refine allFrom_cons ?_ ?_
          · intro a_ w_ hk_
            have h66 : a_.eval (.tmp 66) = (.pointer (some ⟨gp, 0, none⟩)) := hk_.got 6 66 _ (by kernel_rfl) rfl rfl
            have hx_ := hk_.ext
            clear hk_
            refine flow_plain rfl ?_
            unfold gives
            have hc_ : ∀ v, a_.eval (.const v) = v := fun _ => rfl
            have hn_ : ∀ f, a_.eval (.func f) = .func (.func f) #[] #[] := fun _ => rfl
            generalize a_.eval = ρ_ at *
            go_simp
            exact ⟨Below.refl _ _, rfl⟩
          exact allFrom_nil
        intro f_ w_ hx_ hf_
        have h60 : f_ 60 = (.slice (some ⟨gp, 0, none⟩) m cp) := hf_ 0 60 _ (by decide) rfl rfl
        have h61 : f_ 61 = (.pointer (some ⟨gp, 0, none⟩)) := hf_ 1 61 _ (by decide) rfl rfl
        have h62 : f_ 62 = (.pointer (some ⟨gp, 0, none⟩)) := hf_ 2 62 _ (by decide) rfl rfl
        have h63 : f_ 63 = (.int .u8 (x0.toNat : Int)) := hf_ 3 63 _ (by decide) rfl rfl
        have h64 : f_ 64 = (.int .u8 (a : Int)) := hf_ 4 64 _ (by decide) rfl rfl
        have h65 : f_ 65 = (.int .u8 (bits BinOp.xor IntKind.u8 (x0.toNat : Int) (a : Int))) := hf_ 5 65 _ (by decide) rfl rfl
        have h66 : f_ 66 = (.pointer (some ⟨gp, 0, none⟩)) := hf_ 6 66 _ (by decide) rfl rfl
        have h67 : f_ 67 = (.pointer (some ⟨gp, 0, none⟩)) := hf_ 7 67 _ (by decide) rfl rfl
        simp only [mix, List.drop_succ_cons, List.drop_zero, h60, h61, h62, h63, h64, h65, h66, h67]
        clear h60 h61 h62 h63 h64 h65 h66 h67
        clear hf_
        rename World => wa
        have hcura := hcur.below hx_ hcur.lt
        have hca := (hx_.cell (p := ⟨gp, 0, none⟩) hgpl10).trans hcell0
        have hfa := hcura.frozen 0
        have hput := setCell_put hcura (i := 0) (.int .u8 (bits BinOp.xor IntKind.u8 (x0.toNat : Int) (a : Int)))
        have hFa := (HF10.out.below hx_).put hput (by omega) (by intro e; have := hfo gp e; omega)
        have hFb := (HF11.out.below hx_).put hput (by omega) (by intro e; have := hfo11 gp e; omega)
        have hRa := hput.other (hR10.below hx_ hR10.lt) (by omega)
        have hbS := bx_put (bx_trans hbr10 hx_) hput (by have := hbr6.size; omega)
        have HFa := hid hFa
        have HFb := hid hFb
        have HRa := hid hRa
        have HBS := hid hbS
        have HON2 := hid HON.out
        have hw1 : IntKind.u64.wrap (i : Int) = (i : Int) := u64_len i (by omega)
        clear hx_ hcur hcell0 hfz hFa hFb hRa hbS hput hcura
        go_wp2_with fail
        refine wp_flow (by kernel_rfl) [0, 1, 0, 7, 15, 31, 63, 31, 255, 511, 1023, 2047, 4095, 2047, 10239, 26623, 65535, 131071, 262143] 18 [false, false, false, false, false, false, false, false, false, false, false, false, false, false, false, false, false, false, false, false, false, false, false, false, false, false, false, false, false, false, false, false, false, false, false, false, false, false, false, false, false, false, false, false, false, false, false, false, false, false, false, false, false, false, false, false, false, false, false, false, false, false, false, false, false, false, false, false, true, true, true, true, true, true, true, true, true, true, true, true, true, true, true, true, true, true] (by kernel_rfl) (by decide) (by kernel_rfl) [FP.eq (.pointer (some ⟨g, 0, none⟩)), FP.eq (.agg (R.map cb).toArray), FP.eq (.agg (R.map cb).toArray), FP.eq (.bool true), FP.eq (.bool true), FP.eq (.pointer (some ⟨g11, 0, none⟩)), FP.eq (.agg (R.map cb).toArray), FP.eq (.agg (R.map cb).toArray), FP.eq (.bool true), FP.eq (.bool true), FP.eq (.bool true), FP.eq (.pointer (some ⟨g11, 0, none⟩)), FP.eq (.int .u64 (i : Int)), FP.eq (.slice A0 i c0), FP.eq (.int .i64 (i : Int)), FP.eq (.int .u64 (i : Int)), FP.eq (.bool true), FP.eq (.bool true)] ?_ ?_
        · refine allFrom_cons ?_ ?_
          · intro a_ w_ hk_
            have h7 : a_.eval (.tmp 7) = .pointer (some ⟨g, 0, none⟩) := hk_.old 7 (by kernel_rfl)
            have hx_ := hk_.ext
            clear hk_
            refine flow_plain rfl ?_
            exact gives_move rfl ⟨Below.refl _ _, h7⟩
          refine allFrom_cons ?_ ?_
          · intro a_ w_ hk_
            have h68 : a_.eval (.tmp 68) = (.pointer (some ⟨g, 0, none⟩)) := hk_.got 0 68 _ (by kernel_rfl) rfl rfl
            have hx_ := hk_.ext
            clear hk_
            refine flow_plain rfl ?_
            unfold gives
            have hc_ : ∀ v, a_.eval (.const v) = v := fun _ => rfl
            have hn_ : ∀ f, a_.eval (.func f) = .func (.func f) #[] #[] := fun _ => rfl
            generalize a_.eval = ρ_ at *
            go_simp
            exact (HFR.out w_ B g A c (bx_trans HBS.out hx_) (HFa.out.below hx_)).mono fun e w' hh => ⟨_, hh.1, hh.2, rfl⟩
          refine allFrom_cons ?_ ?_
          · intro a_ w_ hk_
            have h9 : a_.eval (.tmp 9) = .pointer (some ⟨g9, 0, none⟩) := hk_.old 9 (by kernel_rfl)
            have hx_ := hk_.ext
            clear hk_
            refine flow_plain rfl ?_
            exact gives_ldC rfl h9 hax (blk_cells (HRa.out.below hx_ HRa.out.lt)) ⟨Below.refl _ _, rfl⟩
          refine allFrom_cons ?_ ?_
          · intro a_ w_ hk_
            have h69 : a_.eval (.tmp 69) = (.agg (R.map cb).toArray) := hk_.got 1 69 _ (by kernel_rfl) rfl rfl
            have h70 : a_.eval (.tmp 70) = (.agg (R.map cb).toArray) := hk_.got 2 70 _ (by kernel_rfl) rfl rfl
            have hx_ := hk_.ext
            clear hk_
            refine flow_plain rfl ?_
            unfold gives
            have hc_ : ∀ v, a_.eval (.const v) = v := fun _ => rfl
            have hn_ : ∀ f, a_.eval (.func f) = .func (.func f) #[] #[] := fun _ => rfl
            generalize a_.eval = ρ_ at *
            go_simp
            exact ⟨Below.refl _ _, rfl⟩
          refine allFrom_cons ?_ ?_
          · intro a_ w_ hk_
            have h71 : a_.eval (.tmp 71) = (.bool true) := hk_.got 3 71 _ (by kernel_rfl) rfl rfl
            have hx_ := hk_.ext
            clear hk_
            refine flow_plain rfl ?_
            exact gives_move rfl ⟨Below.refl _ _, h71⟩
          refine allFrom_cons ?_ ?_
          · intro a_ w_ hk_
            have h11 : a_.eval (.tmp 11) = .pointer (some ⟨g11, 0, none⟩) := hk_.old 11 (by kernel_rfl)
            have hg_ : a_.eval (.tmp 72) = .bool true := hk_.got 4 72 _ (by kernel_rfl) rfl rfl
            have hy_ := hk_.want 4 _ 72 true rfl rfl hg_
            have hx_ := hk_.ext
            clear hk_
            refine flow_want rfl hy_ ?_
            exact gives_move rfl ⟨Below.refl _ _, h11⟩
          refine allFrom_cons ?_ ?_
          · intro a_ w_ hk_
            have h73 : a_.eval (.tmp 73) = (.pointer (some ⟨g11, 0, none⟩)) := hk_.got 5 73 _ (by kernel_rfl) rfl rfl
            have hg_ : a_.eval (.tmp 72) = .bool true := hk_.got 4 72 _ (by kernel_rfl) rfl rfl
            have hy_ := hk_.want 4 _ 72 true rfl rfl hg_
            have hx_ := hk_.ext
            clear hk_
            refine flow_want rfl hy_ ?_
            unfold gives
            have hc_ : ∀ v, a_.eval (.const v) = v := fun _ => rfl
            have hn_ : ∀ f, a_.eval (.func f) = .func (.func f) #[] #[] := fun _ => rfl
            clear hy_ hg_
            generalize a_.eval = ρ_ at *
            go_simp
            exact (HFR.out w_ w8.heap.size g11 A11 c11 (bx_trans HBS.out hx_) (HFb.out.below hx_)).mono fun e w' hh => ⟨_, hh.1, hh.2, rfl⟩
          refine allFrom_cons ?_ ?_
          · intro a_ w_ hk_
            have h9 : a_.eval (.tmp 9) = .pointer (some ⟨g9, 0, none⟩) := hk_.old 9 (by kernel_rfl)
            have hg_ : a_.eval (.tmp 72) = .bool true := hk_.got 4 72 _ (by kernel_rfl) rfl rfl
            have hy_ := hk_.want 4 _ 72 true rfl rfl hg_
            have hx_ := hk_.ext
            clear hk_
            refine flow_want rfl hy_ ?_
            exact gives_ldC rfl h9 hax (blk_cells (HRa.out.below hx_ HRa.out.lt)) ⟨Below.refl _ _, rfl⟩
          refine allFrom_cons ?_ ?_
          · intro a_ w_ hk_
            have h74 : a_.eval (.tmp 74) = (.agg (R.map cb).toArray) := hk_.got 6 74 _ (by kernel_rfl) rfl rfl
            have h75 : a_.eval (.tmp 75) = (.agg (R.map cb).toArray) := hk_.got 7 75 _ (by kernel_rfl) rfl rfl
            have hg_ : a_.eval (.tmp 72) = .bool true := hk_.got 4 72 _ (by kernel_rfl) rfl rfl
            have hy_ := hk_.want 4 _ 72 true rfl rfl hg_
            have hx_ := hk_.ext
            clear hk_
            refine flow_want rfl hy_ ?_
            unfold gives
            have hc_ : ∀ v, a_.eval (.const v) = v := fun _ => rfl
            have hn_ : ∀ f, a_.eval (.func f) = .func (.func f) #[] #[] := fun _ => rfl
            clear hy_ hg_
            generalize a_.eval = ρ_ at *
            go_simp
            exact ⟨Below.refl _ _, rfl⟩
          refine allFrom_cons ?_ ?_
          · intro a_ w_ hk_
            have h72 : a_.eval (.tmp 72) = (.bool true) := hk_.got 4 72 _ (by kernel_rfl) rfl rfl
            have h76 : a_.eval (.tmp 76) = (.bool true) := hk_.got 8 76 _ (by kernel_rfl) rfl rfl
            have hx_ := hk_.ext
            clear hk_
            refine flow_plain rfl ?_
            exact gives_pick rfl h72 ⟨Below.refl _ _, h76⟩
          refine allFrom_cons ?_ ?_
          · intro a_ w_ hk_
            have h77 : a_.eval (.tmp 77) = (.bool true) := hk_.got 9 77 _ (by kernel_rfl) rfl rfl
            have hx_ := hk_.ext
            clear hk_
            refine flow_plain rfl ?_
            exact gives_move rfl ⟨Below.refl _ _, h77⟩
          refine allFrom_cons ?_ ?_
          · intro a_ w_ hk_
            have h11 : a_.eval (.tmp 11) = .pointer (some ⟨g11, 0, none⟩) := hk_.old 11 (by kernel_rfl)
            have hg_ : a_.eval (.tmp 78) = .bool true := hk_.got 10 78 _ (by kernel_rfl) rfl rfl
            have hy_ := hk_.want 10 _ 78 true rfl rfl hg_
            have hx_ := hk_.ext
            clear hk_
            refine flow_want rfl hy_ ?_
            exact gives_move rfl ⟨Below.refl _ _, h11⟩
          refine allFrom_cons ?_ ?_
          · intro a_ w_ hk_
            have h79 : a_.eval (.tmp 79) = (.pointer (some ⟨g11, 0, none⟩)) := hk_.got 11 79 _ (by kernel_rfl) rfl rfl
            have hg_ : a_.eval (.tmp 78) = .bool true := hk_.got 10 78 _ (by kernel_rfl) rfl rfl
            have hy_ := hk_.want 10 _ 78 true rfl rfl hg_
            have hx_ := hk_.ext
            clear hk_
            refine flow_want rfl hy_ ?_
            unfold gives
            have hc_ : ∀ v, a_.eval (.const v) = v := fun _ => rfl
            have hn_ : ∀ f, a_.eval (.func f) = .func (.func f) #[] #[] := fun _ => rfl
            clear hy_ hg_
            generalize a_.eval = ρ_ at *
            go_simp
            exact (Size_any w_ (HFb.out.below hx_)).mono fun e w' hh => ⟨_, hh.1, by rw [hh.2]; exact Below.refl _ _, rfl⟩
          refine allFrom_cons ?_ ?_
          · intro a_ w_ hk_
            have h0 : a_.eval (.tmp 0) = .slice A0 i c0 := hk_.old 0 (by kernel_rfl)
            have hg_ : a_.eval (.tmp 78) = .bool true := hk_.got 10 78 _ (by kernel_rfl) rfl rfl
            have hy_ := hk_.want 10 _ 78 true rfl rfl hg_
            have hx_ := hk_.ext
            clear hk_
            refine flow_want rfl hy_ ?_
            exact gives_move rfl ⟨Below.refl _ _, h0⟩
          refine allFrom_cons ?_ ?_
          · intro a_ w_ hk_
            have h81 : a_.eval (.tmp 81) = (.slice A0 i c0) := hk_.got 13 81 _ (by kernel_rfl) rfl rfl
            have hg_ : a_.eval (.tmp 78) = .bool true := hk_.got 10 78 _ (by kernel_rfl) rfl rfl
            have hy_ := hk_.want 10 _ 78 true rfl rfl hg_
            have hx_ := hk_.ext
            clear hk_
            refine flow_want rfl hy_ ?_
            unfold gives
            have hc_ : ∀ v, a_.eval (.const v) = v := fun _ => rfl
            have hn_ : ∀ f, a_.eval (.func f) = .func (.func f) #[] #[] := fun _ => rfl
            clear hy_ hg_
            generalize a_.eval = ρ_ at *
            go_simp
            exact ⟨Below.refl _ _, rfl⟩
          refine allFrom_cons ?_ ?_
          · intro a_ w_ hk_
            have h82 : a_.eval (.tmp 82) = (.int .i64 (i : Int)) := hk_.got 14 82 _ (by kernel_rfl) rfl rfl
            have hg_ : a_.eval (.tmp 78) = .bool true := hk_.got 10 78 _ (by kernel_rfl) rfl rfl
            have hy_ := hk_.want 10 _ 78 true rfl rfl hg_
            have hx_ := hk_.ext
            clear hk_
            refine flow_want rfl hy_ ?_
            unfold gives
            have hc_ : ∀ v, a_.eval (.const v) = v := fun _ => rfl
            have hn_ : ∀ f, a_.eval (.func f) = .func (.func f) #[] #[] := fun _ => rfl
            clear hy_ hg_
            generalize a_.eval = ρ_ at *
            go_simp
            exact ⟨Below.refl _ _, rfl⟩
          refine allFrom_cons ?_ ?_
          · intro a_ w_ hk_
            have h80 : a_.eval (.tmp 80) = (.int .u64 (i : Int)) := hk_.got 12 80 _ (by kernel_rfl) rfl rfl
            have h83 : a_.eval (.tmp 83) = (.int .u64 (i : Int)) := hk_.got 15 83 _ (by kernel_rfl) rfl rfl
            have hg_ : a_.eval (.tmp 78) = .bool true := hk_.got 10 78 _ (by kernel_rfl) rfl rfl
            have hy_ := hk_.want 10 _ 78 true rfl rfl hg_
            have hx_ := hk_.ext
            clear hk_
            refine flow_want rfl hy_ ?_
            unfold gives
            have hc_ : ∀ v, a_.eval (.const v) = v := fun _ => rfl
            have hn_ : ∀ f, a_.eval (.func f) = .func (.func f) #[] #[] := fun _ => rfl
            clear hy_ hg_
            generalize a_.eval = ρ_ at *
            go_simp
            exact ⟨Below.refl _ _, rfl⟩
          refine allFrom_cons ?_ ?_
          · intro a_ w_ hk_
            have h78 : a_.eval (.tmp 78) = (.bool true) := hk_.got 10 78 _ (by kernel_rfl) rfl rfl
            have h84 : a_.eval (.tmp 84) = (.bool true) := hk_.got 16 84 _ (by kernel_rfl) rfl rfl
            have hx_ := hk_.ext
            clear hk_
            refine flow_plain rfl ?_
            exact gives_pick rfl h78 ⟨Below.refl _ _, h84⟩
          exact allFrom_nil
        intro f_ w_ hx_ hf_
        have h68 : f_ 68 = (.pointer (some ⟨g, 0, none⟩)) := hf_ 0 68 _ (by decide) rfl rfl
        have h69 : f_ 69 = (.agg (R.map cb).toArray) := hf_ 1 69 _ (by decide) rfl rfl
        have h70 : f_ 70 = (.agg (R.map cb).toArray) := hf_ 2 70 _ (by decide) rfl rfl
        have h71 : f_ 71 = (.bool true) := hf_ 3 71 _ (by decide) rfl rfl
        have h72 : f_ 72 = (.bool true) := hf_ 4 72 _ (by decide) rfl rfl
        have h73 : f_ 73 = (.pointer (some ⟨g11, 0, none⟩)) := hf_ 5 73 _ (by decide) rfl rfl
        have h74 : f_ 74 = (.agg (R.map cb).toArray) := hf_ 6 74 _ (by decide) rfl rfl
        have h75 : f_ 75 = (.agg (R.map cb).toArray) := hf_ 7 75 _ (by decide) rfl rfl
        have h76 : f_ 76 = (.bool true) := hf_ 8 76 _ (by decide) rfl rfl
        have h77 : f_ 77 = (.bool true) := hf_ 9 77 _ (by decide) rfl rfl
        have h78 : f_ 78 = (.bool true) := hf_ 10 78 _ (by decide) rfl rfl
        have h79 : f_ 79 = (.pointer (some ⟨g11, 0, none⟩)) := hf_ 11 79 _ (by decide) rfl rfl
        have h80 : f_ 80 = (.int .u64 (i : Int)) := hf_ 12 80 _ (by decide) rfl rfl
        have h81 : f_ 81 = (.slice A0 i c0) := hf_ 13 81 _ (by decide) rfl rfl
        have h82 : f_ 82 = (.int .i64 (i : Int)) := hf_ 14 82 _ (by decide) rfl rfl
        have h83 : f_ 83 = (.int .u64 (i : Int)) := hf_ 15 83 _ (by decide) rfl rfl
        have h84 : f_ 84 = (.bool true) := hf_ 16 84 _ (by decide) rfl rfl
        have h85 : f_ 85 = (.bool true) := hf_ 17 85 _ (by decide) rfl rfl
        simp only [mix, List.drop_succ_cons, List.drop_zero, h68, h69, h70, h71, h72, h73, h74, h75, h76, h77, h78, h79, h80, h81, h82, h83, h84, h85]
        clear h68 h69 h70 h71 h72 h73 h74 h75 h76 h77 h78 h79 h80 h81 h82 h83 h84 h85
        clear hf_
        have HFIN := hid (bx_trans HBS.out hx_)
        clear hx_
        go_wp2
        go_ret
        exact ⟨rfl, HFIN.out⟩
end Go.Proofs.YtohkfnmggmlogaaDoor
