/- OctetReads: its walk. -/
import Derived.Test.YtnlgogladafcdaaOctR
namespace Go.Proofs.Ytnlgogladafcdaa
open Go.RowKit
set_option linter.unusedVariables false
theorem IsR.other {w w1 : World} {g g' : Nat} {s : RS} {A : Option Addr} {c : Nat} {t : TypeId} {c0 cs : Array Value} (h : IsR w g s A c) (hb : Blk w g' t c0) (hp : Put w w1 g' t cs) (ht : t ≠ 5) (hg : g ≠ g') : Rr w1 g s := Rr.other ⟨A, c, h⟩ hb hp ht hg
theorem strb {s : List UInt8} {i : Nat} {c : UInt8} (h : s[i]? = some c) (hp : i < (⟨s.toArray⟩ : ByteArray).size) : (⟨s.toArray⟩ : ByteArray)[i]'hp = c := by
  have := (List.getElem?_eq_some_iff.1 h).2
  simpa [ByteArray.getElem_eq_getElem_data] using this
theorem slO_str {w : World} {A : Option Addr} {c : Nat} {l : List UInt8} (h : SlO w (.slice A l.length c) l) : (convert 23 9 (.slice A l.length c)).run Try.prog w = .ok (.string ⟨l.toArray⟩) w := by
  obtain ⟨A', c', e, _, _, hrd, _⟩ := h
  injection e with e1 _ e3
  subst e1 e3
  exact conv_str (P := Try.prog) (src := 23) (dst := 9) Try.underlying23 Try.underlying5 Try.underlying9 c hrd
theorem cellH {w : World} {g i : Nat} {h : List UInt8} {c : UInt8} (hb : Blk w g 25 (h.map cb).toArray) (hi : h[i]? = some c) : w.cell? ⟨g, i, none⟩ = some (.int .u8 (c.toNat : Int)) := (cell_of_row w g i _ _ _ hb).trans (by simp [hi, cb])
theorem wr_less (k : Nat) (h : k < 64) : IntKind.i64.wrap ((k : Int) - 1) = (k : Int) - 1 := by
  rcases Nat.eq_zero_or_pos k with rfl | hp
  · decide
  · exact wr_i64 _ (by omega) (by omega)
set_option maxRecDepth 100000 in
set_option maxHeartbeats 4000000 in
theorem OctetReads_walk (w : World) (A0 : Option Addr) (c0 : Nat) (l0 : List UInt8) (hc0 : l0.length ≤ c0) (hm0 : c0 ≤ maxLen) (hr0 : Rd w w.heap.size A0 (l0.map cb))
    (A1 : Option Addr) (c1 : Nat) (l1 : List UInt8) (hc1 : l1.length ≤ c1) (hm1 : c1 ≤ maxLen) (hr1 : Rd w w.heap.size A1 (l1.map cb)) :
    Calls Try.prog 4 #[.slice A0 l0.length c0, .slice A1 l1.length c1] w fun e w' => e = .returned (.bool true) ∧ Below w.heap.size w w' := by
  unfold maxLen at hm0 hm1
  have HR1 := hid hr1
  clear hr1
  go_enter Try.func4, Try.ntmps4
  go_wp2_with fail
  refine (awake_any w).mono ?_
  rintro e w1 ⟨rfl, hb1⟩
  by_cases hs0 : 300 < l0.length
  · go_wp2
    go_ret
    exact ⟨rfl, hb1⟩
  by_cases hs1 : 60 < l1.length
  · go_wp2
    go_ret
    exact ⟨rfl, hb1⟩
  have hr01 := hr0.below hb1
  go_wp2_with fail
  refine (NewReader_any w1 hr01 (by omega)).mono ?_
  rintro e w2 ⟨g, rfl, hR2, hg2, hb2⟩
  have hb02 := bx_trans hb1 hb2
  have hgw : w.heap.size ≤ g := by have := hb1.size; omega
  have hcs := conv_str (P := Try.prog) (src := 23) (dst := 9) Try.underlying23 Try.underlying5 Try.underlying9 c0 (hr01.below (hb2.mono hb1.size))
  clear hr0 hr01
  obtain ⟨AR2, cR2, hR2⟩ := hR2
  go_wp2_with (first
    | (refine wpList_alloc rfl _ rfl zeroR ?_; intro gz wz hgz0 hgz' hblkz hbz; have hgz : g ≠ gz := Nat.ne_of_lt (Nat.lt_of_lt_of_le hR2.blk.lt hgz0); have hgzw : w.heap.size ≤ gz := Nat.le_trans hb02.size hgz0; have hRz := hR2.below hbz; have hb0z := bx_trans hb02 hbz)
    | (refine wpList_store_agg rfl _ _ _ rfl _ _ rfl (rcs l0 0).toArray rfl (aggR _ _) hblkz (Nat.le_refl 2) (oneR _ _) ?_; intro wy hpy; have hzy : Blk wy gz tR (rcs l0 0).toArray := hpy.blk; have hRy := hRz.other hblkz hpy (by decide) hgz; have hb0y := bx_put hb0z hpy hgzw))
  clear hcs hb02 hR2 hb2 hblkz hRz hb0z hpy hbz hgz0 hgz'
  go_loopw [8] (fun j wr => ∃ (i : Nat) (sb : List UInt8) (se : Int), i ≤ l1.length ∧ j = .int .i64 i ∧ sb.length ≤ 300 ∧ Rr wr g ⟨sb, se⟩ ∧ Blk wr gz tR (rcs sb se).toArray ∧ Below w.heap.size w wr) (fun j _ => l1.length - (intOf j).toNat)
  case atStart => exact ⟨0, l0, 0, by omega, rfl, by omega, hRy, hzy, hb0y⟩
  case round =>
    obtain ⟨i, sb, se, hi, rfl, hsl, ⟨A, c, hR⟩, hz, hbr⟩ := hrel
    clear hRy hzy hb0y
    have hsbl : (⟨sb, se⟩ : RS).b.length ≤ 300 := hsl
    by_cases hlt : i < l1.length
    · obtain ⟨b, off, rfl, hbb, hd⟩ := (HR1.out.below hbr).at_ (k := i) (by simpa using hlt)
      have hcell : wr.cell? ⟨b, off + i, none⟩ = some (.int .u8 (l1[i].toNat : Int)) := hd i _ (by simp [cb, hlt])
      have hy8 := l1[i].toNat_lt
      have han := and3_u8 l1[i]
      obtain ⟨k, hk⟩ : ∃ k, k = l1[i].toNat / 4 := ⟨_, rfl⟩
      obtain ⟨q, hq⟩ : ∃ q, q = l1[i].toNat % 4 := ⟨_, rfl⟩
      have hsh : (l1[i].toNat : Int) / 4 = (k : Int) := by omega
      rw [← hq] at han
      have hk64 : k < 64 := by omega
      have hq4 : q = 0 ∨ q = 1 ∨ q = 2 ∨ q = 3 := by omega
      have hwk : IntKind.i64.wrap (k : Int) = (k : Int) := wr_i64 _ (by omega) (by omega)
      have hwl := wr_less k hk64
      clear hd hq hk
      generalize l1[i].toNat = y at *
      rcases hq4 with rfl | rfl | rfl | rfl
      · go_wp2_with fail
        refine (RNum_any wr hR ((k : Int) - 1)).mono ?_
        rintro e w3 ⟨rfl, hR3, hG3⟩
        have hb3 := hbr.trans (below_rg hG3 hgw hbr.size)
        have hz3 : Blk w3 gz tR (rcs sb se).toArray := (hG3.block gz hz.lt (fun e => by injection e with e; exact hgz e.symm)).trans hz
        obtain ⟨A3, c3, hR3⟩ := hR3
        have hl3 := numS_len ⟨sb, se⟩ ((k : Int) - 1)
        go_wp2_with (refine wpList_load_agg rfl _ _ rfl _ _ rfl (rcs sb se) (aggR _ _) (blk_cells hz3) ?_)
        refine (refNumR_any w3 sb se ((k : Int) - 1) (by omega) (by omega)).mono ?_
        rintro y w4 ⟨rfl, hb4⟩
        have hR4 := hR3.below hb4
        have hz4 := hz3.below hb4 hz3.lt
        have hb04 := bx_trans hb3 hb4
        generalize numV ⟨sb, se⟩ ((k : Int) - 1) = x at *
        generalize numS ⟨sb, se⟩ ((k : Int) - 1) = s3 at *
        rcases s3 with ⟨b3, e3⟩
        replace hl3 : b3.length ≤ 300 := Nat.le_trans hl3 hsl
        go_wp2_with (first
          | (refine wpList_alloc rfl _ rfl zeroR ?_; intro g5 w5 hg5 hg5' hblk5 hb5; have hR5 := hR4.below hb5; have hz5 := hz4.below hb5 hz4.lt; have hb05 := bx_trans hb04 hb5; have hne5 : gz ≠ g5 := Nat.ne_of_lt (Nat.lt_of_lt_of_le hz4.lt hg5); have hne6 : g ≠ g5 := Nat.ne_of_lt (Nat.lt_of_lt_of_le hR4.blk.lt hg5); have hle5 : w.heap.size ≤ g5 := Nat.le_trans hb04.size hg5)
          | (refine wpList_store_agg rfl _ _ _ rfl _ _ rfl (rcs b3 e3).toArray rfl (aggR _ _) hblk5 (Nat.le_refl 2) (oneR _ _) ?_; intro w6 hp6; have hblk6 : Blk w6 g5 tR (rcs b3 e3).toArray := hp6.blk; have hz6 := hp6.other hz5 hne5; have hR6 := hR5.other hblk5 hp6 (by decide) hne6; have hb06 := bx_put hb05 hp6 hle5)
          | (refine wpList_load_agg rfl _ _ rfl _ _ rfl (rcs b3 e3) (aggR _ _) (blk_cells hblk6) ?_)
          | (refine wpList_store_agg rfl _ _ _ rfl _ _ rfl (rcs b3 e3).toArray rfl (aggR _ _) hz6 (Nat.le_refl 2) (oneR _ _) ?_; intro w7 hp7; have hz7 : Blk w7 gz tR (rcs b3 e3).toArray := hp7.blk; have hR7 := Rr.other hR6 hz6 hp7 (by decide) hgz; have hb07 := bx_put hb06 hp7 hgzw))
        obtain ⟨A7, c7, hR7⟩ := hR7
        refine wp_flow (by kernel_rfl) [0, 1, 3, 7, 15, 7, 39, 127, 255, 511, 1023, 2047, 1023, 8191, 16383, 32767] 15 [false, false, false, false, false, false, false, false, false, false, false, false, false, false, false, false, false, false, false, false, false, false, false, false, false, false, false, false, false, false, false, false, false, false, false, false, false, false, false, false, false, false, false, false, false, false, false, false, false, false, false, false, false, false, false, false, false, false, false, false, false, false, false, false, false, false, false, false, false, false, false, false, false, false, false, false, false, false, false, false, false, false, false, false, false, false, false, false, false, false, false, false, false, false, false, false, false, false, false, false, false, false, false, false, false, false, false, false, false, false, false, false, false, false, false, false, false, false, false, false, false, false, false, false, false, false, false, false, false, false, false, false, false, false, false, false, false, false, false, true, true, true, true, true, true, true, true, true, true, true, true, true, true, true, false] (by kernel_rfl) (by decide) (by kernel_rfl) [FP.eq (.bool true), FP.eq (.bool false), FP.eq (.bool false), FP.eq (.pointer (some ⟨g, 0, none⟩)), FP.eq (.int .i64 e3), FP.eq (.pointer (some ⟨gz, 1, none⟩)), FP.eq (.int .i64 e3), FP.eq (.bool false), FP.eq (.bool false), FP.eq (.bool false), FP.eq (.pointer (some ⟨g, 0, none⟩)), FP.eq (.int .i64 (endE ⟨b3, e3⟩)), FP.eq (.agg (rcs b3 e3).toArray), FP.eq (.int .i64 (endE ⟨b3, e3⟩)), FP.eq (.bool false)] ?_ ?_
        · refine allFrom_cons ?_ ?_
          · intro a_ w_ hk_
            have h10 : a_.eval (.tmp 10) = .bool true := hk_.old 10 (by kernel_rfl)
            have hx_ := hk_.ext
            clear hk_
            refine flow_plain rfl ?_
            exact gives_move rfl ⟨Below.refl _ _, h10⟩
          refine allFrom_cons ?_ ?_
          · intro a_ w_ hk_
            have h139 : a_.eval (.tmp 139) = (.bool true) := hk_.got 0 139 _ (by kernel_rfl) rfl rfl
            have hx_ := hk_.ext
            clear hk_
            refine flow_plain rfl ?_
            unfold gives
            have hc_ : ∀ v, a_.eval (.const v) = v := fun _ => rfl
            have hn_ : ∀ f, a_.eval (.func f) = .func (.func f) #[] #[] := fun _ => rfl
            generalize a_.eval = ρ_ at *
            go_simp
            exact ⟨Below.refl _ _, rfl⟩
          refine allFrom_cons ?_ ?_
          · intro a_ w_ hk_
            have h140 : a_.eval (.tmp 140) = (.bool false) := hk_.got 1 140 _ (by kernel_rfl) rfl rfl
            have hx_ := hk_.ext
            clear hk_
            refine flow_plain rfl ?_
            exact gives_move rfl ⟨Below.refl _ _, h140⟩
          refine allFrom_cons ?_ ?_
          · intro a_ w_ hk_
            have h6 : a_.eval (.tmp 6) = .pointer (some ⟨g, 0, none⟩) := hk_.old 6 (by kernel_rfl)
            have hg_ : a_.eval (.tmp 141) = .bool false := hk_.got 2 141 _ (by kernel_rfl) rfl rfl
            have hy_ := hk_.want 2 _ 141 false rfl rfl hg_
            have hx_ := hk_.ext
            clear hk_
            refine flow_want rfl hy_ ?_
            exact gives_move rfl ⟨Below.refl _ _, h6⟩
          refine allFrom_cons ?_ ?_
          · intro a_ w_ hk_
            have h142 : a_.eval (.tmp 142) = (.pointer (some ⟨g, 0, none⟩)) := hk_.got 3 142 _ (by kernel_rfl) rfl rfl
            have hg_ : a_.eval (.tmp 141) = .bool false := hk_.got 2 141 _ (by kernel_rfl) rfl rfl
            have hy_ := hk_.want 2 _ 141 false rfl rfl hg_
            have hx_ := hk_.ext
            clear hk_
            refine flow_want rfl hy_ ?_
            unfold gives
            have hc_ : ∀ v, a_.eval (.const v) = v := fun _ => rfl
            have hn_ : ∀ f, a_.eval (.func f) = .func (.func f) #[] #[] := fun _ => rfl
            clear hy_ hg_
            generalize a_.eval = ρ_ at *
            go_simp
            exact (RErr_any w_ (hR7.below hx_)).mono fun e w' hh => ⟨_, hh.1, by rw [← hh.2]; exact ⟨Below.refl _ _, rfl⟩⟩
          refine allFrom_cons ?_ ?_
          · intro a_ w_ hk_
            have h7 : a_.eval (.tmp 7) = .pointer (some ⟨gz, 0, none⟩) := hk_.old 7 (by kernel_rfl)
            have hg_ : a_.eval (.tmp 141) = .bool false := hk_.got 2 141 _ (by kernel_rfl) rfl rfl
            have hy_ := hk_.want 2 _ 141 false rfl rfl hg_
            have hx_ := hk_.ext
            clear hk_
            refine flow_want rfl hy_ ?_
            unfold gives
            have hc_ : ∀ v, a_.eval (.const v) = v := fun _ => rfl
            have hn_ : ∀ f, a_.eval (.func f) = .func (.func f) #[] #[] := fun _ => rfl
            clear hy_ hg_
            generalize a_.eval = ρ_ at *
            go_simp
            exact ⟨Below.refl _ _, rfl⟩
          refine allFrom_cons ?_ ?_
          · intro a_ w_ hk_
            have h144 : a_.eval (.tmp 144) = (.pointer (some ⟨gz, 1, none⟩)) := hk_.got 5 144 _ (by kernel_rfl) rfl rfl
            have hg_ : a_.eval (.tmp 141) = .bool false := hk_.got 2 141 _ (by kernel_rfl) rfl rfl
            have hy_ := hk_.want 2 _ 141 false rfl rfl hg_
            have hx_ := hk_.ext
            clear hk_
            refine flow_want rfl hy_ ?_
            unfold gives
            have hc_ : ∀ v, a_.eval (.const v) = v := fun _ => rfl
            have hn_ : ∀ f, a_.eval (.func f) = .func (.func f) #[] #[] := fun _ => rfl
            clear hy_ hg_
            have hcell := cellR1 (hz7.below hx_ hz7.lt)
            generalize a_.eval = ρ_ at *
            go_simp
            exact ⟨Below.refl _ _, rfl⟩
          refine allFrom_cons ?_ ?_
          · intro a_ w_ hk_
            have h143 : a_.eval (.tmp 143) = (.int .i64 e3) := hk_.got 4 143 _ (by kernel_rfl) rfl rfl
            have h145 : a_.eval (.tmp 145) = (.int .i64 e3) := hk_.got 6 145 _ (by kernel_rfl) rfl rfl
            have hg_ : a_.eval (.tmp 141) = .bool false := hk_.got 2 141 _ (by kernel_rfl) rfl rfl
            have hy_ := hk_.want 2 _ 141 false rfl rfl hg_
            have hx_ := hk_.ext
            clear hk_
            refine flow_want rfl hy_ ?_
            unfold gives
            have hc_ : ∀ v, a_.eval (.const v) = v := fun _ => rfl
            have hn_ : ∀ f, a_.eval (.func f) = .func (.func f) #[] #[] := fun _ => rfl
            clear hy_ hg_
            generalize a_.eval = ρ_ at *
            go_simp
            exact ⟨Below.refl _ _, rfl⟩
          refine allFrom_cons ?_ ?_
          · intro a_ w_ hk_
            have h141 : a_.eval (.tmp 141) = (.bool false) := hk_.got 2 141 _ (by kernel_rfl) rfl rfl
            have h146 : a_.eval (.tmp 146) = (.bool false) := hk_.got 7 146 _ (by kernel_rfl) rfl rfl
            have hx_ := hk_.ext
            clear hk_
            refine flow_plain rfl ?_
            exact gives_pick rfl h141 ⟨Below.refl _ _, h146⟩
          refine allFrom_cons ?_ ?_
          · intro a_ w_ hk_
            have h147 : a_.eval (.tmp 147) = (.bool false) := hk_.got 8 147 _ (by kernel_rfl) rfl rfl
            have hx_ := hk_.ext
            clear hk_
            refine flow_plain rfl ?_
            exact gives_move rfl ⟨Below.refl _ _, h147⟩
          refine allFrom_cons ?_ ?_
          · intro a_ w_ hk_
            have h6 : a_.eval (.tmp 6) = .pointer (some ⟨g, 0, none⟩) := hk_.old 6 (by kernel_rfl)
            have hg_ : a_.eval (.tmp 148) = .bool false := hk_.got 9 148 _ (by kernel_rfl) rfl rfl
            have hy_ := hk_.want 9 _ 148 false rfl rfl hg_
            have hx_ := hk_.ext
            clear hk_
            refine flow_want rfl hy_ ?_
            exact gives_move rfl ⟨Below.refl _ _, h6⟩
          refine allFrom_cons ?_ ?_
          · intro a_ w_ hk_
            have h149 : a_.eval (.tmp 149) = (.pointer (some ⟨g, 0, none⟩)) := hk_.got 10 149 _ (by kernel_rfl) rfl rfl
            have hg_ : a_.eval (.tmp 148) = .bool false := hk_.got 9 148 _ (by kernel_rfl) rfl rfl
            have hy_ := hk_.want 9 _ 148 false rfl rfl hg_
            have hx_ := hk_.ext
            clear hk_
            refine flow_want rfl hy_ ?_
            unfold gives
            have hc_ : ∀ v, a_.eval (.const v) = v := fun _ => rfl
            have hn_ : ∀ f, a_.eval (.func f) = .func (.func f) #[] #[] := fun _ => rfl
            clear hy_ hg_
            generalize a_.eval = ρ_ at *
            go_simp
            exact (REnd_any w_ (hR7.below hx_)).mono fun e w' hh => ⟨_, hh.1, by rw [← hh.2]; exact ⟨Below.refl _ _, rfl⟩⟩
          refine allFrom_cons ?_ ?_
          · intro a_ w_ hk_
            have h7 : a_.eval (.tmp 7) = .pointer (some ⟨gz, 0, none⟩) := hk_.old 7 (by kernel_rfl)
            have hg_ : a_.eval (.tmp 148) = .bool false := hk_.got 9 148 _ (by kernel_rfl) rfl rfl
            have hy_ := hk_.want 9 _ 148 false rfl rfl hg_
            have hx_ := hk_.ext
            clear hk_
            refine flow_want rfl hy_ ?_
            exact gives_load_agg rfl h7 (aggR _ _) (blk_cells (hz7.below hx_ hz7.lt)) ⟨Below.refl _ _, rfl⟩
          refine allFrom_cons ?_ ?_
          · intro a_ w_ hk_
            have h151 : a_.eval (.tmp 151) = (.agg (rcs b3 e3).toArray) := hk_.got 12 151 _ (by kernel_rfl) rfl rfl
            have hg_ : a_.eval (.tmp 148) = .bool false := hk_.got 9 148 _ (by kernel_rfl) rfl rfl
            have hy_ := hk_.want 9 _ 148 false rfl rfl hg_
            have hx_ := hk_.ext
            clear hk_
            refine flow_want rfl hy_ ?_
            unfold gives
            have hc_ : ∀ v, a_.eval (.const v) = v := fun _ => rfl
            have hn_ : ∀ f, a_.eval (.func f) = .func (.func f) #[] #[] := fun _ => rfl
            clear hy_ hg_
            generalize a_.eval = ρ_ at *
            go_simp
            exact (refEnd_any w_ b3 e3).mono fun e w' hh => ⟨_, hh.1, hh.2, rfl⟩
          refine allFrom_cons ?_ ?_
          · intro a_ w_ hk_
            have h150 : a_.eval (.tmp 150) = (.int .i64 (endE ⟨b3, e3⟩)) := hk_.got 11 150 _ (by kernel_rfl) rfl rfl
            have h152 : a_.eval (.tmp 152) = (.int .i64 (endE ⟨b3, e3⟩)) := hk_.got 13 152 _ (by kernel_rfl) rfl rfl
            have hg_ : a_.eval (.tmp 148) = .bool false := hk_.got 9 148 _ (by kernel_rfl) rfl rfl
            have hy_ := hk_.want 9 _ 148 false rfl rfl hg_
            have hx_ := hk_.ext
            clear hk_
            refine flow_want rfl hy_ ?_
            unfold gives
            have hc_ : ∀ v, a_.eval (.const v) = v := fun _ => rfl
            have hn_ : ∀ f, a_.eval (.func f) = .func (.func f) #[] #[] := fun _ => rfl
            clear hy_ hg_
            generalize a_.eval = ρ_ at *
            go_simp
            exact ⟨Below.refl _ _, rfl⟩
          exact allFrom_nil
        intro f_ w_ hx_ hf_
        have h139 : f_ 139 = (.bool true) := hf_ 0 139 _ (by decide) rfl rfl
        have h140 : f_ 140 = (.bool false) := hf_ 1 140 _ (by decide) rfl rfl
        have h141 : f_ 141 = (.bool false) := hf_ 2 141 _ (by decide) rfl rfl
        have h142 : f_ 142 = (.pointer (some ⟨g, 0, none⟩)) := hf_ 3 142 _ (by decide) rfl rfl
        have h143 : f_ 143 = (.int .i64 e3) := hf_ 4 143 _ (by decide) rfl rfl
        have h144 : f_ 144 = (.pointer (some ⟨gz, 1, none⟩)) := hf_ 5 144 _ (by decide) rfl rfl
        have h145 : f_ 145 = (.int .i64 e3) := hf_ 6 145 _ (by decide) rfl rfl
        have h146 : f_ 146 = (.bool false) := hf_ 7 146 _ (by decide) rfl rfl
        have h147 : f_ 147 = (.bool false) := hf_ 8 147 _ (by decide) rfl rfl
        have h148 : f_ 148 = (.bool false) := hf_ 9 148 _ (by decide) rfl rfl
        have h149 : f_ 149 = (.pointer (some ⟨g, 0, none⟩)) := hf_ 10 149 _ (by decide) rfl rfl
        have h150 : f_ 150 = (.int .i64 (endE ⟨b3, e3⟩)) := hf_ 11 150 _ (by decide) rfl rfl
        have h151 : f_ 151 = (.agg (rcs b3 e3).toArray) := hf_ 12 151 _ (by decide) rfl rfl
        have h152 : f_ 152 = (.int .i64 (endE ⟨b3, e3⟩)) := hf_ 13 152 _ (by decide) rfl rfl
        have h153 : f_ 153 = (.bool false) := hf_ 14 153 _ (by decide) rfl rfl
        simp only [mix, List.drop_succ_cons, List.drop_zero, h139, h140, h141, h142, h143, h144, h145, h146, h147, h148, h149, h150, h151, h152, h153]
        clear h139 h140 h141 h142 h143 h144 h145 h146 h147 h148 h149 h150 h151 h152 h153
        clear hf_
        have hR8 := hR7.below hx_
        have hz8 := hz7.below hx_ hz7.lt
        have hb08 := bx_trans hb07 hx_
        go_wp2
        go_roundw
        case rel => exact ⟨i + 1, b3, e3, by omega, by go_num, hl3, ⟨A7, c7, hR8⟩, hz8, hb08⟩
        case measure => simp [intOf]; omega
      · go_wp2_with fail
        refine (RRaw_any wr hR ((k : Int) - 1) (by omega) (by show sb.length ≤ _; omega)).mono ?_
        rintro e w3 ⟨v3, rfl, hv3, hR3, hG3⟩
        have hb3 := hbr.trans (below_rg hG3 hgw hbr.size)
        have hz3 : Blk w3 gz tR (rcs sb se).toArray := (hG3.block gz hz.lt (fun e => by injection e with e; exact hgz e.symm)).trans hz
        obtain ⟨A3, c3, hR3⟩ := hR3
        obtain ⟨Av, cv, rfl, hcv, hmv, hrv, hov⟩ := hv3
        have hl3 := rawS_len ⟨sb, se⟩ ((k : Int) - 1)
        go_wp2_with (refine wpList_load_agg rfl _ _ rfl _ _ rfl (rcs sb se) (aggR _ _) (blk_cells hz3) ?_)
        refine (refRaw_any w3 sb se ((k : Int) - 1) (by omega) (by omega)).mono ?_
        rintro y w4 ⟨rfl, hb4⟩
        have hR4 := hR3.below hb4
        have hz4 := hz3.below hb4 hz3.lt
        have hb04 := bx_trans hb3 hb4
        have hv4 : SlO w4 _ _ := SlO.below ⟨Av, cv, rfl, hcv, hmv, hrv, hov⟩ hb4
        generalize rawV ⟨sb, se⟩ ((k : Int) - 1) = v at *
        generalize rawS ⟨sb, se⟩ ((k : Int) - 1) = s3 at *
        rcases s3 with ⟨b3, e3⟩
        replace hl3 : b3.length ≤ 300 := Nat.le_trans hl3 hsl
        go_wp2_with (first
          | (refine wpList_alloc rfl _ rfl zeroR ?_; intro g5 w5 hg5 hg5' hblk5 hb5; have hR5 := hR4.below hb5; have hz5 := hz4.below hb5 hz4.lt; have hb05 := bx_trans hb04 hb5; have hne5 : gz ≠ g5 := Nat.ne_of_lt (Nat.lt_of_lt_of_le hz4.lt hg5); have hne6 : g ≠ g5 := Nat.ne_of_lt (Nat.lt_of_lt_of_le hR4.blk.lt hg5); have hle5 : w.heap.size ≤ g5 := Nat.le_trans hb04.size hg5)
          | (refine wpList_store_agg rfl _ _ _ rfl _ _ rfl (rcs b3 e3).toArray rfl (aggR _ _) hblk5 (Nat.le_refl 2) (oneR _ _) ?_; intro w6 hp6; have hblk6 : Blk w6 g5 tR (rcs b3 e3).toArray := hp6.blk; have hz6 := hp6.other hz5 hne5; have hR6 := hR5.other hblk5 hp6 (by decide) hne6; have hb06 := bx_put hb05 hp6 hle5)
          | (refine wpList_load_agg rfl _ _ rfl _ _ rfl (rcs b3 e3) (aggR _ _) (blk_cells hblk6) ?_)
          | (refine wpList_store_agg rfl _ _ _ rfl _ _ rfl (rcs b3 e3).toArray rfl (aggR _ _) hz6 (Nat.le_refl 2) (oneR _ _) ?_; intro w7 hp7; have hz7 : Blk w7 gz tR (rcs b3 e3).toArray := hp7.blk; have hR7 := Rr.other hR6 hz6 hp7 (by decide) hgz; have hb07 := bx_put hb06 hp7 hgzw; have hcs := slO_str (((hv4.below hb5).other hblk5 hp6 (by decide)).other hz6 hp7 (by decide))))
        obtain ⟨A7, c7, hR7⟩ := hR7
        refine wp_flow (by kernel_rfl) [0, 1, 3, 7, 15, 7, 39, 127, 255, 511, 1023, 2047, 1023, 8191, 16383, 32767] 15 [false, false, false, false, false, false, false, false, false, false, false, false, false, false, false, false, false, false, false, false, false, false, false, false, false, false, false, false, false, false, false, false, false, false, false, false, false, false, false, false, false, false, false, false, false, false, false, false, false, false, false, false, false, false, false, false, false, false, false, false, false, false, false, false, false, false, false, false, false, false, false, false, false, false, false, false, false, false, false, false, false, false, false, false, false, false, false, false, false, false, false, false, false, false, false, false, false, false, false, false, false, false, false, false, false, false, false, false, false, false, false, false, false, false, false, false, false, false, false, false, false, false, false, false, false, false, false, false, false, false, false, false, false, false, false, false, false, false, false, true, true, true, true, true, true, true, true, true, true, true, true, true, true, true, false] (by kernel_rfl) (by decide) (by kernel_rfl) [FP.eq (.bool true), FP.eq (.bool false), FP.eq (.bool false), FP.eq (.pointer (some ⟨g, 0, none⟩)), FP.eq (.int .i64 e3), FP.eq (.pointer (some ⟨gz, 1, none⟩)), FP.eq (.int .i64 e3), FP.eq (.bool false), FP.eq (.bool false), FP.eq (.bool false), FP.eq (.pointer (some ⟨g, 0, none⟩)), FP.eq (.int .i64 (endE ⟨b3, e3⟩)), FP.eq (.agg (rcs b3 e3).toArray), FP.eq (.int .i64 (endE ⟨b3, e3⟩)), FP.eq (.bool false)] ?_ ?_
        · refine allFrom_cons ?_ ?_
          · intro a_ w_ hk_
            have h10 : a_.eval (.tmp 10) = .bool true := hk_.old 10 (by kernel_rfl)
            have hx_ := hk_.ext
            clear hk_
            refine flow_plain rfl ?_
            exact gives_move rfl ⟨Below.refl _ _, h10⟩
          refine allFrom_cons ?_ ?_
          · intro a_ w_ hk_
            have h139 : a_.eval (.tmp 139) = (.bool true) := hk_.got 0 139 _ (by kernel_rfl) rfl rfl
            have hx_ := hk_.ext
            clear hk_
            refine flow_plain rfl ?_
            unfold gives
            have hc_ : ∀ v, a_.eval (.const v) = v := fun _ => rfl
            have hn_ : ∀ f, a_.eval (.func f) = .func (.func f) #[] #[] := fun _ => rfl
            generalize a_.eval = ρ_ at *
            go_simp
            exact ⟨Below.refl _ _, rfl⟩
          refine allFrom_cons ?_ ?_
          · intro a_ w_ hk_
            have h140 : a_.eval (.tmp 140) = (.bool false) := hk_.got 1 140 _ (by kernel_rfl) rfl rfl
            have hx_ := hk_.ext
            clear hk_
            refine flow_plain rfl ?_
            exact gives_move rfl ⟨Below.refl _ _, h140⟩
          refine allFrom_cons ?_ ?_
          · intro a_ w_ hk_
            have h6 : a_.eval (.tmp 6) = .pointer (some ⟨g, 0, none⟩) := hk_.old 6 (by kernel_rfl)
            have hg_ : a_.eval (.tmp 141) = .bool false := hk_.got 2 141 _ (by kernel_rfl) rfl rfl
            have hy_ := hk_.want 2 _ 141 false rfl rfl hg_
            have hx_ := hk_.ext
            clear hk_
            refine flow_want rfl hy_ ?_
            exact gives_move rfl ⟨Below.refl _ _, h6⟩
          refine allFrom_cons ?_ ?_
          · intro a_ w_ hk_
            have h142 : a_.eval (.tmp 142) = (.pointer (some ⟨g, 0, none⟩)) := hk_.got 3 142 _ (by kernel_rfl) rfl rfl
            have hg_ : a_.eval (.tmp 141) = .bool false := hk_.got 2 141 _ (by kernel_rfl) rfl rfl
            have hy_ := hk_.want 2 _ 141 false rfl rfl hg_
            have hx_ := hk_.ext
            clear hk_
            refine flow_want rfl hy_ ?_
            unfold gives
            have hc_ : ∀ v, a_.eval (.const v) = v := fun _ => rfl
            have hn_ : ∀ f, a_.eval (.func f) = .func (.func f) #[] #[] := fun _ => rfl
            clear hy_ hg_
            generalize a_.eval = ρ_ at *
            go_simp
            exact (RErr_any w_ (hR7.below hx_)).mono fun e w' hh => ⟨_, hh.1, by rw [← hh.2]; exact ⟨Below.refl _ _, rfl⟩⟩
          refine allFrom_cons ?_ ?_
          · intro a_ w_ hk_
            have h7 : a_.eval (.tmp 7) = .pointer (some ⟨gz, 0, none⟩) := hk_.old 7 (by kernel_rfl)
            have hg_ : a_.eval (.tmp 141) = .bool false := hk_.got 2 141 _ (by kernel_rfl) rfl rfl
            have hy_ := hk_.want 2 _ 141 false rfl rfl hg_
            have hx_ := hk_.ext
            clear hk_
            refine flow_want rfl hy_ ?_
            unfold gives
            have hc_ : ∀ v, a_.eval (.const v) = v := fun _ => rfl
            have hn_ : ∀ f, a_.eval (.func f) = .func (.func f) #[] #[] := fun _ => rfl
            clear hy_ hg_
            generalize a_.eval = ρ_ at *
            go_simp
            exact ⟨Below.refl _ _, rfl⟩
          refine allFrom_cons ?_ ?_
          · intro a_ w_ hk_
            have h144 : a_.eval (.tmp 144) = (.pointer (some ⟨gz, 1, none⟩)) := hk_.got 5 144 _ (by kernel_rfl) rfl rfl
            have hg_ : a_.eval (.tmp 141) = .bool false := hk_.got 2 141 _ (by kernel_rfl) rfl rfl
            have hy_ := hk_.want 2 _ 141 false rfl rfl hg_
            have hx_ := hk_.ext
            clear hk_
            refine flow_want rfl hy_ ?_
            unfold gives
            have hc_ : ∀ v, a_.eval (.const v) = v := fun _ => rfl
            have hn_ : ∀ f, a_.eval (.func f) = .func (.func f) #[] #[] := fun _ => rfl
            clear hy_ hg_
            have hcell := cellR1 (hz7.below hx_ hz7.lt)
            generalize a_.eval = ρ_ at *
            go_simp
            exact ⟨Below.refl _ _, rfl⟩
          refine allFrom_cons ?_ ?_
          · intro a_ w_ hk_
            have h143 : a_.eval (.tmp 143) = (.int .i64 e3) := hk_.got 4 143 _ (by kernel_rfl) rfl rfl
            have h145 : a_.eval (.tmp 145) = (.int .i64 e3) := hk_.got 6 145 _ (by kernel_rfl) rfl rfl
            have hg_ : a_.eval (.tmp 141) = .bool false := hk_.got 2 141 _ (by kernel_rfl) rfl rfl
            have hy_ := hk_.want 2 _ 141 false rfl rfl hg_
            have hx_ := hk_.ext
            clear hk_
            refine flow_want rfl hy_ ?_
            unfold gives
            have hc_ : ∀ v, a_.eval (.const v) = v := fun _ => rfl
            have hn_ : ∀ f, a_.eval (.func f) = .func (.func f) #[] #[] := fun _ => rfl
            clear hy_ hg_
            generalize a_.eval = ρ_ at *
            go_simp
            exact ⟨Below.refl _ _, rfl⟩
          refine allFrom_cons ?_ ?_
          · intro a_ w_ hk_
            have h141 : a_.eval (.tmp 141) = (.bool false) := hk_.got 2 141 _ (by kernel_rfl) rfl rfl
            have h146 : a_.eval (.tmp 146) = (.bool false) := hk_.got 7 146 _ (by kernel_rfl) rfl rfl
            have hx_ := hk_.ext
            clear hk_
            refine flow_plain rfl ?_
            exact gives_pick rfl h141 ⟨Below.refl _ _, h146⟩
          refine allFrom_cons ?_ ?_
          · intro a_ w_ hk_
            have h147 : a_.eval (.tmp 147) = (.bool false) := hk_.got 8 147 _ (by kernel_rfl) rfl rfl
            have hx_ := hk_.ext
            clear hk_
            refine flow_plain rfl ?_
            exact gives_move rfl ⟨Below.refl _ _, h147⟩
          refine allFrom_cons ?_ ?_
          · intro a_ w_ hk_
            have h6 : a_.eval (.tmp 6) = .pointer (some ⟨g, 0, none⟩) := hk_.old 6 (by kernel_rfl)
            have hg_ : a_.eval (.tmp 148) = .bool false := hk_.got 9 148 _ (by kernel_rfl) rfl rfl
            have hy_ := hk_.want 9 _ 148 false rfl rfl hg_
            have hx_ := hk_.ext
            clear hk_
            refine flow_want rfl hy_ ?_
            exact gives_move rfl ⟨Below.refl _ _, h6⟩
          refine allFrom_cons ?_ ?_
          · intro a_ w_ hk_
            have h149 : a_.eval (.tmp 149) = (.pointer (some ⟨g, 0, none⟩)) := hk_.got 10 149 _ (by kernel_rfl) rfl rfl
            have hg_ : a_.eval (.tmp 148) = .bool false := hk_.got 9 148 _ (by kernel_rfl) rfl rfl
            have hy_ := hk_.want 9 _ 148 false rfl rfl hg_
            have hx_ := hk_.ext
            clear hk_
            refine flow_want rfl hy_ ?_
            unfold gives
            have hc_ : ∀ v, a_.eval (.const v) = v := fun _ => rfl
            have hn_ : ∀ f, a_.eval (.func f) = .func (.func f) #[] #[] := fun _ => rfl
            clear hy_ hg_
            generalize a_.eval = ρ_ at *
            go_simp
            exact (REnd_any w_ (hR7.below hx_)).mono fun e w' hh => ⟨_, hh.1, by rw [← hh.2]; exact ⟨Below.refl _ _, rfl⟩⟩
          refine allFrom_cons ?_ ?_
          · intro a_ w_ hk_
            have h7 : a_.eval (.tmp 7) = .pointer (some ⟨gz, 0, none⟩) := hk_.old 7 (by kernel_rfl)
            have hg_ : a_.eval (.tmp 148) = .bool false := hk_.got 9 148 _ (by kernel_rfl) rfl rfl
            have hy_ := hk_.want 9 _ 148 false rfl rfl hg_
            have hx_ := hk_.ext
            clear hk_
            refine flow_want rfl hy_ ?_
            exact gives_load_agg rfl h7 (aggR _ _) (blk_cells (hz7.below hx_ hz7.lt)) ⟨Below.refl _ _, rfl⟩
          refine allFrom_cons ?_ ?_
          · intro a_ w_ hk_
            have h151 : a_.eval (.tmp 151) = (.agg (rcs b3 e3).toArray) := hk_.got 12 151 _ (by kernel_rfl) rfl rfl
            have hg_ : a_.eval (.tmp 148) = .bool false := hk_.got 9 148 _ (by kernel_rfl) rfl rfl
            have hy_ := hk_.want 9 _ 148 false rfl rfl hg_
            have hx_ := hk_.ext
            clear hk_
            refine flow_want rfl hy_ ?_
            unfold gives
            have hc_ : ∀ v, a_.eval (.const v) = v := fun _ => rfl
            have hn_ : ∀ f, a_.eval (.func f) = .func (.func f) #[] #[] := fun _ => rfl
            clear hy_ hg_
            generalize a_.eval = ρ_ at *
            go_simp
            exact (refEnd_any w_ b3 e3).mono fun e w' hh => ⟨_, hh.1, hh.2, rfl⟩
          refine allFrom_cons ?_ ?_
          · intro a_ w_ hk_
            have h150 : a_.eval (.tmp 150) = (.int .i64 (endE ⟨b3, e3⟩)) := hk_.got 11 150 _ (by kernel_rfl) rfl rfl
            have h152 : a_.eval (.tmp 152) = (.int .i64 (endE ⟨b3, e3⟩)) := hk_.got 13 152 _ (by kernel_rfl) rfl rfl
            have hg_ : a_.eval (.tmp 148) = .bool false := hk_.got 9 148 _ (by kernel_rfl) rfl rfl
            have hy_ := hk_.want 9 _ 148 false rfl rfl hg_
            have hx_ := hk_.ext
            clear hk_
            refine flow_want rfl hy_ ?_
            unfold gives
            have hc_ : ∀ v, a_.eval (.const v) = v := fun _ => rfl
            have hn_ : ∀ f, a_.eval (.func f) = .func (.func f) #[] #[] := fun _ => rfl
            clear hy_ hg_
            generalize a_.eval = ρ_ at *
            go_simp
            exact ⟨Below.refl _ _, rfl⟩
          exact allFrom_nil
        intro f_ w_ hx_ hf_
        have h139 : f_ 139 = (.bool true) := hf_ 0 139 _ (by decide) rfl rfl
        have h140 : f_ 140 = (.bool false) := hf_ 1 140 _ (by decide) rfl rfl
        have h141 : f_ 141 = (.bool false) := hf_ 2 141 _ (by decide) rfl rfl
        have h142 : f_ 142 = (.pointer (some ⟨g, 0, none⟩)) := hf_ 3 142 _ (by decide) rfl rfl
        have h143 : f_ 143 = (.int .i64 e3) := hf_ 4 143 _ (by decide) rfl rfl
        have h144 : f_ 144 = (.pointer (some ⟨gz, 1, none⟩)) := hf_ 5 144 _ (by decide) rfl rfl
        have h145 : f_ 145 = (.int .i64 e3) := hf_ 6 145 _ (by decide) rfl rfl
        have h146 : f_ 146 = (.bool false) := hf_ 7 146 _ (by decide) rfl rfl
        have h147 : f_ 147 = (.bool false) := hf_ 8 147 _ (by decide) rfl rfl
        have h148 : f_ 148 = (.bool false) := hf_ 9 148 _ (by decide) rfl rfl
        have h149 : f_ 149 = (.pointer (some ⟨g, 0, none⟩)) := hf_ 10 149 _ (by decide) rfl rfl
        have h150 : f_ 150 = (.int .i64 (endE ⟨b3, e3⟩)) := hf_ 11 150 _ (by decide) rfl rfl
        have h151 : f_ 151 = (.agg (rcs b3 e3).toArray) := hf_ 12 151 _ (by decide) rfl rfl
        have h152 : f_ 152 = (.int .i64 (endE ⟨b3, e3⟩)) := hf_ 13 152 _ (by decide) rfl rfl
        have h153 : f_ 153 = (.bool false) := hf_ 14 153 _ (by decide) rfl rfl
        simp only [mix, List.drop_succ_cons, List.drop_zero, h139, h140, h141, h142, h143, h144, h145, h146, h147, h148, h149, h150, h151, h152, h153]
        clear h139 h140 h141 h142 h143 h144 h145 h146 h147 h148 h149 h150 h151 h152 h153
        clear hf_
        have hR8 := hR7.below hx_
        have hz8 := hz7.below hx_ hz7.lt
        have hb08 := bx_trans hb07 hx_
        go_wp2
        go_roundw
        case rel => exact ⟨i + 1, b3, e3, by omega, by go_num, hl3, ⟨A7, c7, hR8⟩, hz8, hb08⟩
        case measure => simp [intOf]; omega
      · go_wp2_with fail
        refine (RBytes_any wr hR ((k : Int) - 1) (by omega) (by show sb.length ≤ _; omega)).mono ?_
        rintro e w3 ⟨v3, rfl, hv3, hR3, hG3⟩
        have hb3 := hbr.trans (below_rg hG3 hgw hbr.size)
        have hz3 : Blk w3 gz tR (rcs sb se).toArray := (hG3.block gz hz.lt (fun e => by injection e with e; exact hgz e.symm)).trans hz
        obtain ⟨A3, c3, hR3⟩ := hR3
        obtain ⟨Av, cv, rfl, hcv, hmv, hrv, hov⟩ := hv3
        have hl3 := bytesS_len ⟨sb, se⟩ ((k : Int) - 1)
        go_wp2_with (refine wpList_load_agg rfl _ _ rfl _ _ rfl (rcs sb se) (aggR _ _) (blk_cells hz3) ?_)
        refine (refBytesR_any w3 sb se ((k : Int) - 1) (by omega) (by omega)).mono ?_
        rintro y w4 ⟨rfl, hb4⟩
        have hR4 := hR3.below hb4
        have hz4 := hz3.below hb4 hz3.lt
        have hb04 := bx_trans hb3 hb4
        have hv4 : SlO w4 _ _ := SlO.below ⟨Av, cv, rfl, hcv, hmv, hrv, hov⟩ hb4
        generalize bytesV ⟨sb, se⟩ ((k : Int) - 1) = v at *
        generalize bytesS ⟨sb, se⟩ ((k : Int) - 1) = s3 at *
        rcases s3 with ⟨b3, e3⟩
        replace hl3 : b3.length ≤ 300 := Nat.le_trans hl3 hsl
        go_wp2_with (first
          | (refine wpList_alloc rfl _ rfl zeroR ?_; intro g5 w5 hg5 hg5' hblk5 hb5; have hR5 := hR4.below hb5; have hz5 := hz4.below hb5 hz4.lt; have hb05 := bx_trans hb04 hb5; have hne5 : gz ≠ g5 := Nat.ne_of_lt (Nat.lt_of_lt_of_le hz4.lt hg5); have hne6 : g ≠ g5 := Nat.ne_of_lt (Nat.lt_of_lt_of_le hR4.blk.lt hg5); have hle5 : w.heap.size ≤ g5 := Nat.le_trans hb04.size hg5)
          | (refine wpList_store_agg rfl _ _ _ rfl _ _ rfl (rcs b3 e3).toArray rfl (aggR _ _) hblk5 (Nat.le_refl 2) (oneR _ _) ?_; intro w6 hp6; have hblk6 : Blk w6 g5 tR (rcs b3 e3).toArray := hp6.blk; have hz6 := hp6.other hz5 hne5; have hR6 := hR5.other hblk5 hp6 (by decide) hne6; have hb06 := bx_put hb05 hp6 hle5)
          | (refine wpList_load_agg rfl _ _ rfl _ _ rfl (rcs b3 e3) (aggR _ _) (blk_cells hblk6) ?_)
          | (refine wpList_store_agg rfl _ _ _ rfl _ _ rfl (rcs b3 e3).toArray rfl (aggR _ _) hz6 (Nat.le_refl 2) (oneR _ _) ?_; intro w7 hp7; have hz7 : Blk w7 gz tR (rcs b3 e3).toArray := hp7.blk; have hR7 := Rr.other hR6 hz6 hp7 (by decide) hgz; have hb07 := bx_put hb06 hp7 hgzw; have hcs := slO_str (((hv4.below hb5).other hblk5 hp6 (by decide)).other hz6 hp7 (by decide))))
        obtain ⟨A7, c7, hR7⟩ := hR7
        refine wp_flow (by kernel_rfl) [0, 1, 3, 7, 15, 7, 39, 127, 255, 511, 1023, 2047, 1023, 8191, 16383, 32767] 15 [false, false, false, false, false, false, false, false, false, false, false, false, false, false, false, false, false, false, false, false, false, false, false, false, false, false, false, false, false, false, false, false, false, false, false, false, false, false, false, false, false, false, false, false, false, false, false, false, false, false, false, false, false, false, false, false, false, false, false, false, false, false, false, false, false, false, false, false, false, false, false, false, false, false, false, false, false, false, false, false, false, false, false, false, false, false, false, false, false, false, false, false, false, false, false, false, false, false, false, false, false, false, false, false, false, false, false, false, false, false, false, false, false, false, false, false, false, false, false, false, false, false, false, false, false, false, false, false, false, false, false, false, false, false, false, false, false, false, false, true, true, true, true, true, true, true, true, true, true, true, true, true, true, true, false] (by kernel_rfl) (by decide) (by kernel_rfl) [FP.eq (.bool true), FP.eq (.bool false), FP.eq (.bool false), FP.eq (.pointer (some ⟨g, 0, none⟩)), FP.eq (.int .i64 e3), FP.eq (.pointer (some ⟨gz, 1, none⟩)), FP.eq (.int .i64 e3), FP.eq (.bool false), FP.eq (.bool false), FP.eq (.bool false), FP.eq (.pointer (some ⟨g, 0, none⟩)), FP.eq (.int .i64 (endE ⟨b3, e3⟩)), FP.eq (.agg (rcs b3 e3).toArray), FP.eq (.int .i64 (endE ⟨b3, e3⟩)), FP.eq (.bool false)] ?_ ?_
        · refine allFrom_cons ?_ ?_
          · intro a_ w_ hk_
            have h10 : a_.eval (.tmp 10) = .bool true := hk_.old 10 (by kernel_rfl)
            have hx_ := hk_.ext
            clear hk_
            refine flow_plain rfl ?_
            exact gives_move rfl ⟨Below.refl _ _, h10⟩
          refine allFrom_cons ?_ ?_
          · intro a_ w_ hk_
            have h139 : a_.eval (.tmp 139) = (.bool true) := hk_.got 0 139 _ (by kernel_rfl) rfl rfl
            have hx_ := hk_.ext
            clear hk_
            refine flow_plain rfl ?_
            unfold gives
            have hc_ : ∀ v, a_.eval (.const v) = v := fun _ => rfl
            have hn_ : ∀ f, a_.eval (.func f) = .func (.func f) #[] #[] := fun _ => rfl
            generalize a_.eval = ρ_ at *
            go_simp
            exact ⟨Below.refl _ _, rfl⟩
          refine allFrom_cons ?_ ?_
          · intro a_ w_ hk_
            have h140 : a_.eval (.tmp 140) = (.bool false) := hk_.got 1 140 _ (by kernel_rfl) rfl rfl
            have hx_ := hk_.ext
            clear hk_
            refine flow_plain rfl ?_
            exact gives_move rfl ⟨Below.refl _ _, h140⟩
          refine allFrom_cons ?_ ?_
          · intro a_ w_ hk_
            have h6 : a_.eval (.tmp 6) = .pointer (some ⟨g, 0, none⟩) := hk_.old 6 (by kernel_rfl)
            have hg_ : a_.eval (.tmp 141) = .bool false := hk_.got 2 141 _ (by kernel_rfl) rfl rfl
            have hy_ := hk_.want 2 _ 141 false rfl rfl hg_
            have hx_ := hk_.ext
            clear hk_
            refine flow_want rfl hy_ ?_
            exact gives_move rfl ⟨Below.refl _ _, h6⟩
          refine allFrom_cons ?_ ?_
          · intro a_ w_ hk_
            have h142 : a_.eval (.tmp 142) = (.pointer (some ⟨g, 0, none⟩)) := hk_.got 3 142 _ (by kernel_rfl) rfl rfl
            have hg_ : a_.eval (.tmp 141) = .bool false := hk_.got 2 141 _ (by kernel_rfl) rfl rfl
            have hy_ := hk_.want 2 _ 141 false rfl rfl hg_
            have hx_ := hk_.ext
            clear hk_
            refine flow_want rfl hy_ ?_
            unfold gives
            have hc_ : ∀ v, a_.eval (.const v) = v := fun _ => rfl
            have hn_ : ∀ f, a_.eval (.func f) = .func (.func f) #[] #[] := fun _ => rfl
            clear hy_ hg_
            generalize a_.eval = ρ_ at *
            go_simp
            exact (RErr_any w_ (hR7.below hx_)).mono fun e w' hh => ⟨_, hh.1, by rw [← hh.2]; exact ⟨Below.refl _ _, rfl⟩⟩
          refine allFrom_cons ?_ ?_
          · intro a_ w_ hk_
            have h7 : a_.eval (.tmp 7) = .pointer (some ⟨gz, 0, none⟩) := hk_.old 7 (by kernel_rfl)
            have hg_ : a_.eval (.tmp 141) = .bool false := hk_.got 2 141 _ (by kernel_rfl) rfl rfl
            have hy_ := hk_.want 2 _ 141 false rfl rfl hg_
            have hx_ := hk_.ext
            clear hk_
            refine flow_want rfl hy_ ?_
            unfold gives
            have hc_ : ∀ v, a_.eval (.const v) = v := fun _ => rfl
            have hn_ : ∀ f, a_.eval (.func f) = .func (.func f) #[] #[] := fun _ => rfl
            clear hy_ hg_
            generalize a_.eval = ρ_ at *
            go_simp
            exact ⟨Below.refl _ _, rfl⟩
          refine allFrom_cons ?_ ?_
          · intro a_ w_ hk_
            have h144 : a_.eval (.tmp 144) = (.pointer (some ⟨gz, 1, none⟩)) := hk_.got 5 144 _ (by kernel_rfl) rfl rfl
            have hg_ : a_.eval (.tmp 141) = .bool false := hk_.got 2 141 _ (by kernel_rfl) rfl rfl
            have hy_ := hk_.want 2 _ 141 false rfl rfl hg_
            have hx_ := hk_.ext
            clear hk_
            refine flow_want rfl hy_ ?_
            unfold gives
            have hc_ : ∀ v, a_.eval (.const v) = v := fun _ => rfl
            have hn_ : ∀ f, a_.eval (.func f) = .func (.func f) #[] #[] := fun _ => rfl
            clear hy_ hg_
            have hcell := cellR1 (hz7.below hx_ hz7.lt)
            generalize a_.eval = ρ_ at *
            go_simp
            exact ⟨Below.refl _ _, rfl⟩
          refine allFrom_cons ?_ ?_
          · intro a_ w_ hk_
            have h143 : a_.eval (.tmp 143) = (.int .i64 e3) := hk_.got 4 143 _ (by kernel_rfl) rfl rfl
            have h145 : a_.eval (.tmp 145) = (.int .i64 e3) := hk_.got 6 145 _ (by kernel_rfl) rfl rfl
            have hg_ : a_.eval (.tmp 141) = .bool false := hk_.got 2 141 _ (by kernel_rfl) rfl rfl
            have hy_ := hk_.want 2 _ 141 false rfl rfl hg_
            have hx_ := hk_.ext
            clear hk_
            refine flow_want rfl hy_ ?_
            unfold gives
            have hc_ : ∀ v, a_.eval (.const v) = v := fun _ => rfl
            have hn_ : ∀ f, a_.eval (.func f) = .func (.func f) #[] #[] := fun _ => rfl
            clear hy_ hg_
            generalize a_.eval = ρ_ at *
            go_simp
            exact ⟨Below.refl _ _, rfl⟩
          refine allFrom_cons ?_ ?_
          · intro a_ w_ hk_
            have h141 : a_.eval (.tmp 141) = (.bool false) := hk_.got 2 141 _ (by kernel_rfl) rfl rfl
            have h146 : a_.eval (.tmp 146) = (.bool false) := hk_.got 7 146 _ (by kernel_rfl) rfl rfl
            have hx_ := hk_.ext
            clear hk_
            refine flow_plain rfl ?_
            exact gives_pick rfl h141 ⟨Below.refl _ _, h146⟩
          refine allFrom_cons ?_ ?_
          · intro a_ w_ hk_
            have h147 : a_.eval (.tmp 147) = (.bool false) := hk_.got 8 147 _ (by kernel_rfl) rfl rfl
            have hx_ := hk_.ext
            clear hk_
            refine flow_plain rfl ?_
            exact gives_move rfl ⟨Below.refl _ _, h147⟩
          refine allFrom_cons ?_ ?_
          · intro a_ w_ hk_
            have h6 : a_.eval (.tmp 6) = .pointer (some ⟨g, 0, none⟩) := hk_.old 6 (by kernel_rfl)
            have hg_ : a_.eval (.tmp 148) = .bool false := hk_.got 9 148 _ (by kernel_rfl) rfl rfl
            have hy_ := hk_.want 9 _ 148 false rfl rfl hg_
            have hx_ := hk_.ext
            clear hk_
            refine flow_want rfl hy_ ?_
            exact gives_move rfl ⟨Below.refl _ _, h6⟩
          refine allFrom_cons ?_ ?_
          · intro a_ w_ hk_
            have h149 : a_.eval (.tmp 149) = (.pointer (some ⟨g, 0, none⟩)) := hk_.got 10 149 _ (by kernel_rfl) rfl rfl
            have hg_ : a_.eval (.tmp 148) = .bool false := hk_.got 9 148 _ (by kernel_rfl) rfl rfl
            have hy_ := hk_.want 9 _ 148 false rfl rfl hg_
            have hx_ := hk_.ext
            clear hk_
            refine flow_want rfl hy_ ?_
            unfold gives
            have hc_ : ∀ v, a_.eval (.const v) = v := fun _ => rfl
            have hn_ : ∀ f, a_.eval (.func f) = .func (.func f) #[] #[] := fun _ => rfl
            clear hy_ hg_
            generalize a_.eval = ρ_ at *
            go_simp
            exact (REnd_any w_ (hR7.below hx_)).mono fun e w' hh => ⟨_, hh.1, by rw [← hh.2]; exact ⟨Below.refl _ _, rfl⟩⟩
          refine allFrom_cons ?_ ?_
          · intro a_ w_ hk_
            have h7 : a_.eval (.tmp 7) = .pointer (some ⟨gz, 0, none⟩) := hk_.old 7 (by kernel_rfl)
            have hg_ : a_.eval (.tmp 148) = .bool false := hk_.got 9 148 _ (by kernel_rfl) rfl rfl
            have hy_ := hk_.want 9 _ 148 false rfl rfl hg_
            have hx_ := hk_.ext
            clear hk_
            refine flow_want rfl hy_ ?_
            exact gives_load_agg rfl h7 (aggR _ _) (blk_cells (hz7.below hx_ hz7.lt)) ⟨Below.refl _ _, rfl⟩
          refine allFrom_cons ?_ ?_
          · intro a_ w_ hk_
            have h151 : a_.eval (.tmp 151) = (.agg (rcs b3 e3).toArray) := hk_.got 12 151 _ (by kernel_rfl) rfl rfl
            have hg_ : a_.eval (.tmp 148) = .bool false := hk_.got 9 148 _ (by kernel_rfl) rfl rfl
            have hy_ := hk_.want 9 _ 148 false rfl rfl hg_
            have hx_ := hk_.ext
            clear hk_
            refine flow_want rfl hy_ ?_
            unfold gives
            have hc_ : ∀ v, a_.eval (.const v) = v := fun _ => rfl
            have hn_ : ∀ f, a_.eval (.func f) = .func (.func f) #[] #[] := fun _ => rfl
            clear hy_ hg_
            generalize a_.eval = ρ_ at *
            go_simp
            exact (refEnd_any w_ b3 e3).mono fun e w' hh => ⟨_, hh.1, hh.2, rfl⟩
          refine allFrom_cons ?_ ?_
          · intro a_ w_ hk_
            have h150 : a_.eval (.tmp 150) = (.int .i64 (endE ⟨b3, e3⟩)) := hk_.got 11 150 _ (by kernel_rfl) rfl rfl
            have h152 : a_.eval (.tmp 152) = (.int .i64 (endE ⟨b3, e3⟩)) := hk_.got 13 152 _ (by kernel_rfl) rfl rfl
            have hg_ : a_.eval (.tmp 148) = .bool false := hk_.got 9 148 _ (by kernel_rfl) rfl rfl
            have hy_ := hk_.want 9 _ 148 false rfl rfl hg_
            have hx_ := hk_.ext
            clear hk_
            refine flow_want rfl hy_ ?_
            unfold gives
            have hc_ : ∀ v, a_.eval (.const v) = v := fun _ => rfl
            have hn_ : ∀ f, a_.eval (.func f) = .func (.func f) #[] #[] := fun _ => rfl
            clear hy_ hg_
            generalize a_.eval = ρ_ at *
            go_simp
            exact ⟨Below.refl _ _, rfl⟩
          exact allFrom_nil
        intro f_ w_ hx_ hf_
        have h139 : f_ 139 = (.bool true) := hf_ 0 139 _ (by decide) rfl rfl
        have h140 : f_ 140 = (.bool false) := hf_ 1 140 _ (by decide) rfl rfl
        have h141 : f_ 141 = (.bool false) := hf_ 2 141 _ (by decide) rfl rfl
        have h142 : f_ 142 = (.pointer (some ⟨g, 0, none⟩)) := hf_ 3 142 _ (by decide) rfl rfl
        have h143 : f_ 143 = (.int .i64 e3) := hf_ 4 143 _ (by decide) rfl rfl
        have h144 : f_ 144 = (.pointer (some ⟨gz, 1, none⟩)) := hf_ 5 144 _ (by decide) rfl rfl
        have h145 : f_ 145 = (.int .i64 e3) := hf_ 6 145 _ (by decide) rfl rfl
        have h146 : f_ 146 = (.bool false) := hf_ 7 146 _ (by decide) rfl rfl
        have h147 : f_ 147 = (.bool false) := hf_ 8 147 _ (by decide) rfl rfl
        have h148 : f_ 148 = (.bool false) := hf_ 9 148 _ (by decide) rfl rfl
        have h149 : f_ 149 = (.pointer (some ⟨g, 0, none⟩)) := hf_ 10 149 _ (by decide) rfl rfl
        have h150 : f_ 150 = (.int .i64 (endE ⟨b3, e3⟩)) := hf_ 11 150 _ (by decide) rfl rfl
        have h151 : f_ 151 = (.agg (rcs b3 e3).toArray) := hf_ 12 151 _ (by decide) rfl rfl
        have h152 : f_ 152 = (.int .i64 (endE ⟨b3, e3⟩)) := hf_ 13 152 _ (by decide) rfl rfl
        have h153 : f_ 153 = (.bool false) := hf_ 14 153 _ (by decide) rfl rfl
        simp only [mix, List.drop_succ_cons, List.drop_zero, h139, h140, h141, h142, h143, h144, h145, h146, h147, h148, h149, h150, h151, h152, h153]
        clear h139 h140 h141 h142 h143 h144 h145 h146 h147 h148 h149 h150 h151 h152 h153
        clear hf_
        have hR8 := hR7.below hx_
        have hz8 := hz7.below hx_ hz7.lt
        have hb08 := bx_trans hb07 hx_
        go_wp2
        go_roundw
        case rel => exact ⟨i + 1, b3, e3, by omega, by go_num, hl3, ⟨A7, c7, hR8⟩, hz8, hb08⟩
        case measure => simp [intOf]; omega
      · have hrs : rawS ⟨sb, se⟩ 32 = takeS ⟨sb, se⟩ 32 ∧ rawV ⟨sb, se⟩ 32 = takeV ⟨sb, se⟩ 32 := by unfold rawS rawV; rw [if_neg (by decide), if_neg (by decide)]; exact ⟨rfl, rfl⟩
        have RS32 := hid hrs
        clear hrs
        rcases takeV32 ⟨sb, se⟩ with h32 | h32
        · have hV : hashV ⟨sb, se⟩ = takeV ⟨sb, se⟩ 32 := by unfold hashV; rw [if_pos h32]
          obtain ⟨v, hv⟩ : ∃ v, v = takeV ⟨sb, se⟩ 32 := ⟨_, rfl⟩
          rw [← hv] at hV h32
          have TV : Hid (takeV ⟨sb, se⟩ 32 = v) := hid hv.symm
          have HV := hid hV
          have hvl : v.length = 32 := h32
          obtain ⟨a0, ha0⟩ : ∃ a0, v[0]? = some a0 := ⟨_, List.getElem?_eq_getElem (by omega)⟩
          obtain ⟨a31, ha31⟩ : ∃ a31, v[31]? = some a31 := ⟨_, List.getElem?_eq_getElem (by omega)⟩
          have G0 := hid ha0
          have G31 := hid ha31
          have hie : v.isEmpty = false := by cases v with | nil => simp at h32 | cons _ _ => rfl
          have hsz : (⟨v.toArray⟩ : ByteArray).size = 32 := by rw [← h32]; simp [ByteArray.size]
          clear hv hV h32 ha0 ha31
          go_wp2_with fail
          refine (RHash_any wr hR (by show sb.length ≤ _; omega)).mono ?_
          rintro e w3 ⟨rfl, hR3, hG3⟩
          have hb3 := hbr.trans (below_rg hG3 hgw hbr.size)
          have hz3 : Blk w3 gz tR (rcs sb se).toArray := (hG3.block gz hz.lt (fun e => by injection e with e; exact hgz e.symm)).trans hz
          obtain ⟨A3, c3, hR3⟩ := hR3
          have hl3 := takeS_len ⟨sb, se⟩ 32
          rw [HV.out]
          go_wp2_with (first
            | (refine wpList_alloc rfl _ rfl zeroH ?_; intro gh wh hgh hgh' hblkh hbh; have hneh : gz ≠ gh := Nat.ne_of_lt (Nat.lt_of_lt_of_le hz3.lt hgh); have hneh2 : g ≠ gh := Nat.ne_of_lt (Nat.lt_of_lt_of_le hR3.blk.lt hgh); have hzh := hz3.below hbh hz3.lt; have hRh := hR3.below hbh; have hb0h := bx_trans hb3 hbh; have hleh : w.heap.size ≤ gh := Nat.le_trans hb3.size hgh)
            | (refine wpList_store_agg rfl _ _ _ rfl _ _ rfl (v.map cb).toArray rfl (aggHS hvl) hblkh (szH hvl) (one_cbA v) ?_; intro wi hpi; have hblki := hpi.blk; rw [splH hvl] at hblki; have hzi := hpi.other hzh hneh; have hRi := hRh.other hblkh hpi (by decide) hneh2; have hb0i := bx_put hb0h hpi hleh)
            | (refine wpList_load_agg rfl _ _ rfl _ _ rfl (rcs sb se) (aggR _ _) (blk_cells hzi) ?_))
          refine (refRaw_any wi sb se 32 (by omega) (by omega)).mono ?_
          rintro y w4 ⟨rfl, hb4⟩
          rw [RS32.out.1, RS32.out.2]
          rw [TV.out]
          obtain ⟨Ai, ci, hRi⟩ := hRi
          have hR4 := hRi.below hb4
          have hz4 := hzi.below hb4 hzi.lt
          have hb04 := bx_trans hb0i hb4
          have hblkh4 := hblki.below hb4 hblki.lt
          generalize takeS ⟨sb, se⟩ 32 = s3 at *
          rcases s3 with ⟨b3, e3⟩
          replace hl3 : b3.length ≤ 300 := Nat.le_trans hl3 hsl
          go_wp2_with (first
            | (refine wpList_alloc rfl _ rfl zeroR ?_; intro g5 w5 hg5 hg5' hblk5 hb5; have hR5 := hR4.below hb5; have hz5 := hz4.below hb5 hz4.lt; have hb05 := bx_trans hb04 hb5; have hne5 : gz ≠ g5 := Nat.ne_of_lt (Nat.lt_of_lt_of_le hz4.lt hg5); have hne6 : g ≠ g5 := Nat.ne_of_lt (Nat.lt_of_lt_of_le hR4.blk.lt hg5); have hle5 : w.heap.size ≤ g5 := Nat.le_trans hb04.size hg5)
            | (refine wpList_store_agg rfl _ _ _ rfl _ _ rfl (rcs b3 e3).toArray rfl (aggR _ _) hblk5 (Nat.le_refl 2) (oneR _ _) ?_; intro w6 hp6; have hblk6 : Blk w6 g5 tR (rcs b3 e3).toArray := hp6.blk; have hz6 := hp6.other hz5 hne5; have hR6 := hR5.other hblk5 hp6 (by decide) hne6; have hb06 := bx_put hb05 hp6 hle5)
            | (refine wpList_load_agg rfl _ _ rfl _ _ rfl (rcs b3 e3) (aggR _ _) (blk_cells hblk6) ?_)
            | (refine wpList_store_agg rfl _ _ _ rfl _ _ rfl (rcs b3 e3).toArray rfl (aggR _ _) hz6 (Nat.le_refl 2) (oneR _ _) ?_; intro w7 hp7; have hz7 : Blk w7 gz tR (rcs b3 e3).toArray := hp7.blk; have hR7 := Rr.other hR6 hz6 hp7 (by decide) hgz; have hb07 := bx_put hb06 hp7 hgzw; have hblkh7 := hp7.other (hp6.other (hblkh4.below hb5 hblkh4.lt) (Nat.ne_of_lt (Nat.lt_of_lt_of_le hblkh4.lt hg5))) hneh.symm))
          refine wp_flow (by kernel_rfl) [0, 1, 3, 7, 7, 31, 63, 127, 255, 511, 1023, 2047, 4095, 8191, 4095, 20479, 65535, 131071, 262143, 524287, 1048575, 524287, 2621439, 8388607, 16777215, 33554431, 67108863] 26 [false, false, false, false, false, false, false, false, false, false, false, false, false, false, false, false, false, false, false, false, false, false, false, false, false, false, false, false, false, false, false, false, false, false, false, false, false, false, false, false, false, false, false, false, false, false, false, false, false, false, false, false, false, false, false, false, false, false, false, false, false, false, false, false, false, false, true, true, true, true, true, true, true, true, true, true, true, true, true, true, true, true, true, true, true, true, true, true, true, true, true, true] (by kernel_rfl) (by decide) (by kernel_rfl) [FP.eq (.string ⟨v.toArray⟩), FP.eq (.bool false), FP.eq (.bool false), FP.any, FP.any, FP.any, FP.eq (.bool false), FP.eq (.bool false), FP.eq (.string ⟨v.toArray⟩), FP.eq (.int .i64 32), FP.eq (.bool true), FP.eq (.bool true), FP.eq (.string ⟨v.toArray⟩), FP.eq (.int .u8 (a0.toNat : Int)), FP.eq (.pointer (some ⟨gh, 0, none⟩)), FP.eq (.int .u8 (a0.toNat : Int)), FP.eq (.bool true), FP.eq (.bool true), FP.eq (.bool true), FP.eq (.string ⟨v.toArray⟩), FP.eq (.int .u8 (a31.toNat : Int)), FP.eq (.pointer (some ⟨gh, 31, none⟩)), FP.eq (.int .u8 (a31.toNat : Int)), FP.eq (.bool true), FP.eq (.bool true), FP.eq (.bool true)] ?_ ?_
          · refine allFrom_cons ?_ ?_
            · intro a_ w_ hk_
              have h22 : a_.eval (.tmp 22) = .string ⟨v.toArray⟩ := hk_.old 22 (by kernel_rfl)
              have hx_ := hk_.ext
              clear hk_
              refine flow_plain rfl ?_
              exact gives_move rfl ⟨Below.refl _ _, h22⟩
            refine allFrom_cons ?_ ?_
            · intro a_ w_ hk_
              have h66 : a_.eval (.tmp 66) = (.string ⟨v.toArray⟩) := hk_.got 0 66 _ (by kernel_rfl) rfl rfl
              have hx_ := hk_.ext
              clear hk_
              refine flow_plain rfl ?_
              unfold gives
              have hc_ : ∀ v, a_.eval (.const v) = v := fun _ => rfl
              have hn_ : ∀ f, a_.eval (.func f) = .func (.func f) #[] #[] := fun _ => rfl
              generalize a_.eval = ρ_ at *
              go_simp
              exact ⟨Below.refl _ _, rfl⟩
            refine allFrom_cons ?_ ?_
            · intro a_ w_ hk_
              have h67 : a_.eval (.tmp 67) = (.bool false) := hk_.got 1 67 _ (by kernel_rfl) rfl rfl
              have hx_ := hk_.ext
              clear hk_
              refine flow_plain rfl ?_
              exact gives_move rfl ⟨Below.refl _ _, h67⟩
            refine allFrom_cons ?_ ?_
            · intro a_ w_ hk_
              have h20 : a_.eval (.tmp 20) = .pointer (some ⟨gh, 0, none⟩) := hk_.old 20 (by kernel_rfl)
              have hg_ : a_.eval (.tmp 68) = .bool false := hk_.got 2 68 _ (by kernel_rfl) rfl rfl
              have hy_ := hk_.want 2 _ 68 false rfl rfl hg_
              have hx_ := hk_.ext
              clear hk_
              exact flow_skip rfl hy_ (by decide) trivial
            refine allFrom_cons ?_ ?_
            · intro a_ w_ hk_
              have hg_ : a_.eval (.tmp 68) = .bool false := hk_.got 2 68 _ (by kernel_rfl) rfl rfl
              have hy_ := hk_.want 2 _ 68 false rfl rfl hg_
              have hx_ := hk_.ext
              clear hk_
              exact flow_skip rfl hy_ (by decide) trivial
            refine allFrom_cons ?_ ?_
            · intro a_ w_ hk_
              have hg_ : a_.eval (.tmp 68) = .bool false := hk_.got 2 68 _ (by kernel_rfl) rfl rfl
              have hy_ := hk_.want 2 _ 68 false rfl rfl hg_
              have hx_ := hk_.ext
              clear hk_
              exact flow_skip rfl hy_ (by decide) trivial
            refine allFrom_cons ?_ ?_
            · intro a_ w_ hk_
              have h68 : a_.eval (.tmp 68) = (.bool false) := hk_.got 2 68 _ (by kernel_rfl) rfl rfl
              have hx_ := hk_.ext
              clear hk_
              refine flow_plain rfl ?_
              exact gives_pick rfl h68 ⟨Below.refl _ _, rfl⟩
            refine allFrom_cons ?_ ?_
            · intro a_ w_ hk_
              have h72 : a_.eval (.tmp 72) = (.bool false) := hk_.got 6 72 _ (by kernel_rfl) rfl rfl
              have hx_ := hk_.ext
              clear hk_
              refine flow_plain rfl ?_
              exact gives_move rfl ⟨Below.refl _ _, h72⟩
            refine allFrom_cons ?_ ?_
            · intro a_ w_ hk_
              have h22 : a_.eval (.tmp 22) = .string ⟨v.toArray⟩ := hk_.old 22 (by kernel_rfl)
              have hg_ : a_.eval (.tmp 73) = .bool false := hk_.got 7 73 _ (by kernel_rfl) rfl rfl
              have hy_ := hk_.want 7 _ 73 false rfl rfl hg_
              have hx_ := hk_.ext
              clear hk_
              refine flow_want rfl hy_ ?_
              exact gives_move rfl ⟨Below.refl _ _, h22⟩
            refine allFrom_cons ?_ ?_
            · intro a_ w_ hk_
              have h74 : a_.eval (.tmp 74) = (.string ⟨v.toArray⟩) := hk_.got 8 74 _ (by kernel_rfl) rfl rfl
              have hg_ : a_.eval (.tmp 73) = .bool false := hk_.got 7 73 _ (by kernel_rfl) rfl rfl
              have hy_ := hk_.want 7 _ 73 false rfl rfl hg_
              have hx_ := hk_.ext
              clear hk_
              refine flow_want rfl hy_ ?_
              unfold gives
              have hc_ : ∀ v, a_.eval (.const v) = v := fun _ => rfl
              have hn_ : ∀ f, a_.eval (.func f) = .func (.func f) #[] #[] := fun _ => rfl
              clear hy_ hg_
              generalize a_.eval = ρ_ at *
              go_simp
              exact ⟨Below.refl _ _, rfl⟩
            refine allFrom_cons ?_ ?_
            · intro a_ w_ hk_
              have h75 : a_.eval (.tmp 75) = (.int .i64 32) := hk_.got 9 75 _ (by kernel_rfl) rfl rfl
              have hg_ : a_.eval (.tmp 73) = .bool false := hk_.got 7 73 _ (by kernel_rfl) rfl rfl
              have hy_ := hk_.want 7 _ 73 false rfl rfl hg_
              have hx_ := hk_.ext
              clear hk_
              refine flow_want rfl hy_ ?_
              unfold gives
              have hc_ : ∀ v, a_.eval (.const v) = v := fun _ => rfl
              have hn_ : ∀ f, a_.eval (.func f) = .func (.func f) #[] #[] := fun _ => rfl
              clear hy_ hg_
              generalize a_.eval = ρ_ at *
              go_simp
              exact ⟨Below.refl _ _, rfl⟩
            refine allFrom_cons ?_ ?_
            · intro a_ w_ hk_
              have h76 : a_.eval (.tmp 76) = (.bool true) := hk_.got 10 76 _ (by kernel_rfl) rfl rfl
              have hg_ : a_.eval (.tmp 73) = .bool false := hk_.got 7 73 _ (by kernel_rfl) rfl rfl
              have hy_ := hk_.want 7 _ 73 false rfl rfl hg_
              have hx_ := hk_.ext
              clear hk_
              refine flow_want rfl hy_ ?_
              exact gives_move rfl ⟨Below.refl _ _, h76⟩
            refine allFrom_cons ?_ ?_
            · intro a_ w_ hk_
              have h22 : a_.eval (.tmp 22) = .string ⟨v.toArray⟩ := hk_.old 22 (by kernel_rfl)
              have hg_ : a_.eval (.tmp 77) = .bool true := hk_.got 11 77 _ (by kernel_rfl) rfl rfl
              have hy_ := hk_.want 11 _ 77 true rfl rfl hg_
              have hx_ := hk_.ext
              clear hk_
              refine flow_want rfl hy_ ?_
              exact gives_move rfl ⟨Below.refl _ _, h22⟩
            refine allFrom_cons ?_ ?_
            · intro a_ w_ hk_
              have h78 : a_.eval (.tmp 78) = (.string ⟨v.toArray⟩) := hk_.got 12 78 _ (by kernel_rfl) rfl rfl
              have hg_ : a_.eval (.tmp 77) = .bool true := hk_.got 11 77 _ (by kernel_rfl) rfl rfl
              have hy_ := hk_.want 11 _ 77 true rfl rfl hg_
              have hx_ := hk_.ext
              clear hk_
              refine flow_want rfl hy_ ?_
              unfold gives
              have hc_ : ∀ v, a_.eval (.const v) = v := fun _ => rfl
              have hn_ : ∀ f, a_.eval (.func f) = .func (.func f) #[] #[] := fun _ => rfl
              clear hy_ hg_
              generalize a_.eval = ρ_ at *
              go_simp
              exact ⟨Below.refl _ _, congrArg (fun c : UInt8 => Value.int .u8 (c.toNat : Int)) (strb G0.out _)⟩
            refine allFrom_cons ?_ ?_
            · intro a_ w_ hk_
              have h20 : a_.eval (.tmp 20) = .pointer (some ⟨gh, 0, none⟩) := hk_.old 20 (by kernel_rfl)
              have hg_ : a_.eval (.tmp 77) = .bool true := hk_.got 11 77 _ (by kernel_rfl) rfl rfl
              have hy_ := hk_.want 11 _ 77 true rfl rfl hg_
              have hx_ := hk_.ext
              clear hk_
              refine flow_want rfl hy_ ?_
              unfold gives
              have hc_ : ∀ v, a_.eval (.const v) = v := fun _ => rfl
              have hn_ : ∀ f, a_.eval (.func f) = .func (.func f) #[] #[] := fun _ => rfl
              clear hy_ hg_
              generalize a_.eval = ρ_ at *
              go_simp
              exact ⟨Below.refl _ _, rfl⟩
            refine allFrom_cons ?_ ?_
            · intro a_ w_ hk_
              have h80 : a_.eval (.tmp 80) = (.pointer (some ⟨gh, 0, none⟩)) := hk_.got 14 80 _ (by kernel_rfl) rfl rfl
              have hg_ : a_.eval (.tmp 77) = .bool true := hk_.got 11 77 _ (by kernel_rfl) rfl rfl
              have hy_ := hk_.want 11 _ 77 true rfl rfl hg_
              have hx_ := hk_.ext
              clear hk_
              refine flow_want rfl hy_ ?_
              unfold gives
              have hc_ : ∀ v, a_.eval (.const v) = v := fun _ => rfl
              have hn_ : ∀ f, a_.eval (.func f) = .func (.func f) #[] #[] := fun _ => rfl
              clear hy_ hg_
              have hcell := cellH (hblkh7.below hx_ hblkh7.lt) G0.out
              generalize a_.eval = ρ_ at *
              go_simp
              exact ⟨Below.refl _ _, rfl⟩
            refine allFrom_cons ?_ ?_
            · intro a_ w_ hk_
              have h79 : a_.eval (.tmp 79) = (.int .u8 (a0.toNat : Int)) := hk_.got 13 79 _ (by kernel_rfl) rfl rfl
              have h81 : a_.eval (.tmp 81) = (.int .u8 (a0.toNat : Int)) := hk_.got 15 81 _ (by kernel_rfl) rfl rfl
              have hg_ : a_.eval (.tmp 77) = .bool true := hk_.got 11 77 _ (by kernel_rfl) rfl rfl
              have hy_ := hk_.want 11 _ 77 true rfl rfl hg_
              have hx_ := hk_.ext
              clear hk_
              refine flow_want rfl hy_ ?_
              unfold gives
              have hc_ : ∀ v, a_.eval (.const v) = v := fun _ => rfl
              have hn_ : ∀ f, a_.eval (.func f) = .func (.func f) #[] #[] := fun _ => rfl
              clear hy_ hg_
              generalize a_.eval = ρ_ at *
              go_simp
              exact ⟨Below.refl _ _, rfl⟩
            refine allFrom_cons ?_ ?_
            · intro a_ w_ hk_
              have h77 : a_.eval (.tmp 77) = (.bool true) := hk_.got 11 77 _ (by kernel_rfl) rfl rfl
              have h82 : a_.eval (.tmp 82) = (.bool true) := hk_.got 16 82 _ (by kernel_rfl) rfl rfl
              have hg_ : a_.eval (.tmp 73) = .bool false := hk_.got 7 73 _ (by kernel_rfl) rfl rfl
              have hy_ := hk_.want 7 _ 73 false rfl rfl hg_
              have hx_ := hk_.ext
              clear hk_
              refine flow_want rfl hy_ ?_
              exact gives_pick rfl h77 ⟨Below.refl _ _, h82⟩
            refine allFrom_cons ?_ ?_
            · intro a_ w_ hk_
              have h83 : a_.eval (.tmp 83) = (.bool true) := hk_.got 17 83 _ (by kernel_rfl) rfl rfl
              have hg_ : a_.eval (.tmp 73) = .bool false := hk_.got 7 73 _ (by kernel_rfl) rfl rfl
              have hy_ := hk_.want 7 _ 73 false rfl rfl hg_
              have hx_ := hk_.ext
              clear hk_
              refine flow_want rfl hy_ ?_
              exact gives_move rfl ⟨Below.refl _ _, h83⟩
            refine allFrom_cons ?_ ?_
            · intro a_ w_ hk_
              have h22 : a_.eval (.tmp 22) = .string ⟨v.toArray⟩ := hk_.old 22 (by kernel_rfl)
              have hg_ : a_.eval (.tmp 84) = .bool true := hk_.got 18 84 _ (by kernel_rfl) rfl rfl
              have hy_ := hk_.want 18 _ 84 true rfl rfl hg_
              have hx_ := hk_.ext
              clear hk_
              refine flow_want rfl hy_ ?_
              exact gives_move rfl ⟨Below.refl _ _, h22⟩
            refine allFrom_cons ?_ ?_
            · intro a_ w_ hk_
              have h85 : a_.eval (.tmp 85) = (.string ⟨v.toArray⟩) := hk_.got 19 85 _ (by kernel_rfl) rfl rfl
              have hg_ : a_.eval (.tmp 84) = .bool true := hk_.got 18 84 _ (by kernel_rfl) rfl rfl
              have hy_ := hk_.want 18 _ 84 true rfl rfl hg_
              have hx_ := hk_.ext
              clear hk_
              refine flow_want rfl hy_ ?_
              unfold gives
              have hc_ : ∀ v, a_.eval (.const v) = v := fun _ => rfl
              have hn_ : ∀ f, a_.eval (.func f) = .func (.func f) #[] #[] := fun _ => rfl
              clear hy_ hg_
              generalize a_.eval = ρ_ at *
              go_simp
              exact ⟨Below.refl _ _, congrArg (fun c : UInt8 => Value.int .u8 (c.toNat : Int)) (strb G31.out _)⟩
            refine allFrom_cons ?_ ?_
            · intro a_ w_ hk_
              have h20 : a_.eval (.tmp 20) = .pointer (some ⟨gh, 0, none⟩) := hk_.old 20 (by kernel_rfl)
              have hg_ : a_.eval (.tmp 84) = .bool true := hk_.got 18 84 _ (by kernel_rfl) rfl rfl
              have hy_ := hk_.want 18 _ 84 true rfl rfl hg_
              have hx_ := hk_.ext
              clear hk_
              refine flow_want rfl hy_ ?_
              unfold gives
              have hc_ : ∀ v, a_.eval (.const v) = v := fun _ => rfl
              have hn_ : ∀ f, a_.eval (.func f) = .func (.func f) #[] #[] := fun _ => rfl
              clear hy_ hg_
              generalize a_.eval = ρ_ at *
              go_simp
              exact ⟨Below.refl _ _, rfl⟩
            refine allFrom_cons ?_ ?_
            · intro a_ w_ hk_
              have h87 : a_.eval (.tmp 87) = (.pointer (some ⟨gh, 31, none⟩)) := hk_.got 21 87 _ (by kernel_rfl) rfl rfl
              have hg_ : a_.eval (.tmp 84) = .bool true := hk_.got 18 84 _ (by kernel_rfl) rfl rfl
              have hy_ := hk_.want 18 _ 84 true rfl rfl hg_
              have hx_ := hk_.ext
              clear hk_
              refine flow_want rfl hy_ ?_
              unfold gives
              have hc_ : ∀ v, a_.eval (.const v) = v := fun _ => rfl
              have hn_ : ∀ f, a_.eval (.func f) = .func (.func f) #[] #[] := fun _ => rfl
              clear hy_ hg_
              have hcell := cellH (hblkh7.below hx_ hblkh7.lt) G31.out
              generalize a_.eval = ρ_ at *
              go_simp
              exact ⟨Below.refl _ _, rfl⟩
            refine allFrom_cons ?_ ?_
            · intro a_ w_ hk_
              have h86 : a_.eval (.tmp 86) = (.int .u8 (a31.toNat : Int)) := hk_.got 20 86 _ (by kernel_rfl) rfl rfl
              have h88 : a_.eval (.tmp 88) = (.int .u8 (a31.toNat : Int)) := hk_.got 22 88 _ (by kernel_rfl) rfl rfl
              have hg_ : a_.eval (.tmp 84) = .bool true := hk_.got 18 84 _ (by kernel_rfl) rfl rfl
              have hy_ := hk_.want 18 _ 84 true rfl rfl hg_
              have hx_ := hk_.ext
              clear hk_
              refine flow_want rfl hy_ ?_
              unfold gives
              have hc_ : ∀ v, a_.eval (.const v) = v := fun _ => rfl
              have hn_ : ∀ f, a_.eval (.func f) = .func (.func f) #[] #[] := fun _ => rfl
              clear hy_ hg_
              generalize a_.eval = ρ_ at *
              go_simp
              exact ⟨Below.refl _ _, rfl⟩
            refine allFrom_cons ?_ ?_
            · intro a_ w_ hk_
              have h84 : a_.eval (.tmp 84) = (.bool true) := hk_.got 18 84 _ (by kernel_rfl) rfl rfl
              have h89 : a_.eval (.tmp 89) = (.bool true) := hk_.got 23 89 _ (by kernel_rfl) rfl rfl
              have hg_ : a_.eval (.tmp 73) = .bool false := hk_.got 7 73 _ (by kernel_rfl) rfl rfl
              have hy_ := hk_.want 7 _ 73 false rfl rfl hg_
              have hx_ := hk_.ext
              clear hk_
              refine flow_want rfl hy_ ?_
              exact gives_pick rfl h84 ⟨Below.refl _ _, h89⟩
            refine allFrom_cons ?_ ?_
            · intro a_ w_ hk_
              have h73 : a_.eval (.tmp 73) = (.bool false) := hk_.got 7 73 _ (by kernel_rfl) rfl rfl
              have h90 : a_.eval (.tmp 90) = (.bool true) := hk_.got 24 90 _ (by kernel_rfl) rfl rfl
              have hx_ := hk_.ext
              clear hk_
              refine flow_plain rfl ?_
              exact gives_pick rfl h73 ⟨Below.refl _ _, h90⟩
            exact allFrom_nil
          intro f_ w_ hx_ hf_
          have h66 : f_ 66 = (.string ⟨v.toArray⟩) := hf_ 0 66 _ (by decide) rfl rfl
          have h67 : f_ 67 = (.bool false) := hf_ 1 67 _ (by decide) rfl rfl
          have h68 : f_ 68 = (.bool false) := hf_ 2 68 _ (by decide) rfl rfl
          have h72 : f_ 72 = (.bool false) := hf_ 6 72 _ (by decide) rfl rfl
          have h73 : f_ 73 = (.bool false) := hf_ 7 73 _ (by decide) rfl rfl
          have h74 : f_ 74 = (.string ⟨v.toArray⟩) := hf_ 8 74 _ (by decide) rfl rfl
          have h75 : f_ 75 = (.int .i64 32) := hf_ 9 75 _ (by decide) rfl rfl
          have h76 : f_ 76 = (.bool true) := hf_ 10 76 _ (by decide) rfl rfl
          have h77 : f_ 77 = (.bool true) := hf_ 11 77 _ (by decide) rfl rfl
          have h78 : f_ 78 = (.string ⟨v.toArray⟩) := hf_ 12 78 _ (by decide) rfl rfl
          have h79 : f_ 79 = (.int .u8 (a0.toNat : Int)) := hf_ 13 79 _ (by decide) rfl rfl
          have h80 : f_ 80 = (.pointer (some ⟨gh, 0, none⟩)) := hf_ 14 80 _ (by decide) rfl rfl
          have h81 : f_ 81 = (.int .u8 (a0.toNat : Int)) := hf_ 15 81 _ (by decide) rfl rfl
          have h82 : f_ 82 = (.bool true) := hf_ 16 82 _ (by decide) rfl rfl
          have h83 : f_ 83 = (.bool true) := hf_ 17 83 _ (by decide) rfl rfl
          have h84 : f_ 84 = (.bool true) := hf_ 18 84 _ (by decide) rfl rfl
          have h85 : f_ 85 = (.string ⟨v.toArray⟩) := hf_ 19 85 _ (by decide) rfl rfl
          have h86 : f_ 86 = (.int .u8 (a31.toNat : Int)) := hf_ 20 86 _ (by decide) rfl rfl
          have h87 : f_ 87 = (.pointer (some ⟨gh, 31, none⟩)) := hf_ 21 87 _ (by decide) rfl rfl
          have h88 : f_ 88 = (.int .u8 (a31.toNat : Int)) := hf_ 22 88 _ (by decide) rfl rfl
          have h89 : f_ 89 = (.bool true) := hf_ 23 89 _ (by decide) rfl rfl
          have h90 : f_ 90 = (.bool true) := hf_ 24 90 _ (by decide) rfl rfl
          have h91 : f_ 91 = (.bool true) := hf_ 25 91 _ (by decide) rfl rfl
          simp only [mix, List.drop_succ_cons, List.drop_zero, h66, h67, h68, h72, h73, h74, h75, h76, h77, h78, h79, h80, h81, h82, h83, h84, h85, h86, h87, h88, h89, h90, h91]
          clear h66 h67 h68 h72 h73 h74 h75 h76 h77 h78 h79 h80 h81 h82 h83 h84 h85 h86 h87 h88 h89 h90 h91
          clear hf_
          obtain ⟨A7, c7, hR7⟩ := hR7
          replace hR7 : Rr _ g ⟨b3, e3⟩ := ⟨A7, c7, hR7.below hx_⟩
          replace hz7 := hz7.below hx_ hz7.lt
          replace hb07 := bx_trans hb07 hx_
          clear hx_
          go_wp2_with fail
          obtain ⟨A7, c7, hR7⟩ := hR7
          refine wp_flow (by kernel_rfl) [0, 1, 3, 7, 15, 7, 39, 127, 255, 511, 1023, 2047, 1023, 8191, 16383, 32767] 15 [false, false, false, false, false, false, false, false, false, false, false, false, false, false, false, false, false, false, false, false, false, false, false, false, false, false, false, false, false, false, false, false, false, false, false, false, false, false, false, false, false, false, false, false, false, false, false, false, false, false, false, false, false, false, false, false, false, false, false, false, false, false, false, false, false, false, false, false, false, false, false, false, false, false, false, false, false, false, false, false, false, false, false, false, false, false, false, false, false, false, false, false, false, false, false, false, false, false, false, false, false, false, false, false, false, false, false, false, false, false, false, false, false, false, false, false, false, false, false, false, false, false, false, false, false, false, false, false, false, false, false, false, false, false, false, false, false, false, false, true, true, true, true, true, true, true, true, true, true, true, true, true, true, true, false] (by kernel_rfl) (by decide) (by kernel_rfl) [FP.eq (.bool true), FP.eq (.bool false), FP.eq (.bool false), FP.eq (.pointer (some ⟨g, 0, none⟩)), FP.eq (.int .i64 e3), FP.eq (.pointer (some ⟨gz, 1, none⟩)), FP.eq (.int .i64 e3), FP.eq (.bool false), FP.eq (.bool false), FP.eq (.bool false), FP.eq (.pointer (some ⟨g, 0, none⟩)), FP.eq (.int .i64 (endE ⟨b3, e3⟩)), FP.eq (.agg (rcs b3 e3).toArray), FP.eq (.int .i64 (endE ⟨b3, e3⟩)), FP.eq (.bool false)] ?_ ?_
          · refine allFrom_cons ?_ ?_
            · intro a_ w_ hk_
              have h10 : a_.eval (.tmp 10) = .bool true := hk_.old 10 (by kernel_rfl)
              have hx_ := hk_.ext
              clear hk_
              refine flow_plain rfl ?_
              exact gives_move rfl ⟨Below.refl _ _, h10⟩
            refine allFrom_cons ?_ ?_
            · intro a_ w_ hk_
              have h139 : a_.eval (.tmp 139) = (.bool true) := hk_.got 0 139 _ (by kernel_rfl) rfl rfl
              have hx_ := hk_.ext
              clear hk_
              refine flow_plain rfl ?_
              unfold gives
              have hc_ : ∀ v, a_.eval (.const v) = v := fun _ => rfl
              have hn_ : ∀ f, a_.eval (.func f) = .func (.func f) #[] #[] := fun _ => rfl
              generalize a_.eval = ρ_ at *
              go_simp
              exact ⟨Below.refl _ _, rfl⟩
            refine allFrom_cons ?_ ?_
            · intro a_ w_ hk_
              have h140 : a_.eval (.tmp 140) = (.bool false) := hk_.got 1 140 _ (by kernel_rfl) rfl rfl
              have hx_ := hk_.ext
              clear hk_
              refine flow_plain rfl ?_
              exact gives_move rfl ⟨Below.refl _ _, h140⟩
            refine allFrom_cons ?_ ?_
            · intro a_ w_ hk_
              have h6 : a_.eval (.tmp 6) = .pointer (some ⟨g, 0, none⟩) := hk_.old 6 (by kernel_rfl)
              have hg_ : a_.eval (.tmp 141) = .bool false := hk_.got 2 141 _ (by kernel_rfl) rfl rfl
              have hy_ := hk_.want 2 _ 141 false rfl rfl hg_
              have hx_ := hk_.ext
              clear hk_
              refine flow_want rfl hy_ ?_
              exact gives_move rfl ⟨Below.refl _ _, h6⟩
            refine allFrom_cons ?_ ?_
            · intro a_ w_ hk_
              have h142 : a_.eval (.tmp 142) = (.pointer (some ⟨g, 0, none⟩)) := hk_.got 3 142 _ (by kernel_rfl) rfl rfl
              have hg_ : a_.eval (.tmp 141) = .bool false := hk_.got 2 141 _ (by kernel_rfl) rfl rfl
              have hy_ := hk_.want 2 _ 141 false rfl rfl hg_
              have hx_ := hk_.ext
              clear hk_
              refine flow_want rfl hy_ ?_
              unfold gives
              have hc_ : ∀ v, a_.eval (.const v) = v := fun _ => rfl
              have hn_ : ∀ f, a_.eval (.func f) = .func (.func f) #[] #[] := fun _ => rfl
              clear hy_ hg_
              generalize a_.eval = ρ_ at *
              go_simp
              exact (RErr_any w_ (hR7.below hx_)).mono fun e w' hh => ⟨_, hh.1, by rw [← hh.2]; exact ⟨Below.refl _ _, rfl⟩⟩
            refine allFrom_cons ?_ ?_
            · intro a_ w_ hk_
              have h7 : a_.eval (.tmp 7) = .pointer (some ⟨gz, 0, none⟩) := hk_.old 7 (by kernel_rfl)
              have hg_ : a_.eval (.tmp 141) = .bool false := hk_.got 2 141 _ (by kernel_rfl) rfl rfl
              have hy_ := hk_.want 2 _ 141 false rfl rfl hg_
              have hx_ := hk_.ext
              clear hk_
              refine flow_want rfl hy_ ?_
              unfold gives
              have hc_ : ∀ v, a_.eval (.const v) = v := fun _ => rfl
              have hn_ : ∀ f, a_.eval (.func f) = .func (.func f) #[] #[] := fun _ => rfl
              clear hy_ hg_
              generalize a_.eval = ρ_ at *
              go_simp
              exact ⟨Below.refl _ _, rfl⟩
            refine allFrom_cons ?_ ?_
            · intro a_ w_ hk_
              have h144 : a_.eval (.tmp 144) = (.pointer (some ⟨gz, 1, none⟩)) := hk_.got 5 144 _ (by kernel_rfl) rfl rfl
              have hg_ : a_.eval (.tmp 141) = .bool false := hk_.got 2 141 _ (by kernel_rfl) rfl rfl
              have hy_ := hk_.want 2 _ 141 false rfl rfl hg_
              have hx_ := hk_.ext
              clear hk_
              refine flow_want rfl hy_ ?_
              unfold gives
              have hc_ : ∀ v, a_.eval (.const v) = v := fun _ => rfl
              have hn_ : ∀ f, a_.eval (.func f) = .func (.func f) #[] #[] := fun _ => rfl
              clear hy_ hg_
              have hcell := cellR1 (hz7.below hx_ hz7.lt)
              generalize a_.eval = ρ_ at *
              go_simp
              exact ⟨Below.refl _ _, rfl⟩
            refine allFrom_cons ?_ ?_
            · intro a_ w_ hk_
              have h143 : a_.eval (.tmp 143) = (.int .i64 e3) := hk_.got 4 143 _ (by kernel_rfl) rfl rfl
              have h145 : a_.eval (.tmp 145) = (.int .i64 e3) := hk_.got 6 145 _ (by kernel_rfl) rfl rfl
              have hg_ : a_.eval (.tmp 141) = .bool false := hk_.got 2 141 _ (by kernel_rfl) rfl rfl
              have hy_ := hk_.want 2 _ 141 false rfl rfl hg_
              have hx_ := hk_.ext
              clear hk_
              refine flow_want rfl hy_ ?_
              unfold gives
              have hc_ : ∀ v, a_.eval (.const v) = v := fun _ => rfl
              have hn_ : ∀ f, a_.eval (.func f) = .func (.func f) #[] #[] := fun _ => rfl
              clear hy_ hg_
              generalize a_.eval = ρ_ at *
              go_simp
              exact ⟨Below.refl _ _, rfl⟩
            refine allFrom_cons ?_ ?_
            · intro a_ w_ hk_
              have h141 : a_.eval (.tmp 141) = (.bool false) := hk_.got 2 141 _ (by kernel_rfl) rfl rfl
              have h146 : a_.eval (.tmp 146) = (.bool false) := hk_.got 7 146 _ (by kernel_rfl) rfl rfl
              have hx_ := hk_.ext
              clear hk_
              refine flow_plain rfl ?_
              exact gives_pick rfl h141 ⟨Below.refl _ _, h146⟩
            refine allFrom_cons ?_ ?_
            · intro a_ w_ hk_
              have h147 : a_.eval (.tmp 147) = (.bool false) := hk_.got 8 147 _ (by kernel_rfl) rfl rfl
              have hx_ := hk_.ext
              clear hk_
              refine flow_plain rfl ?_
              exact gives_move rfl ⟨Below.refl _ _, h147⟩
            refine allFrom_cons ?_ ?_
            · intro a_ w_ hk_
              have h6 : a_.eval (.tmp 6) = .pointer (some ⟨g, 0, none⟩) := hk_.old 6 (by kernel_rfl)
              have hg_ : a_.eval (.tmp 148) = .bool false := hk_.got 9 148 _ (by kernel_rfl) rfl rfl
              have hy_ := hk_.want 9 _ 148 false rfl rfl hg_
              have hx_ := hk_.ext
              clear hk_
              refine flow_want rfl hy_ ?_
              exact gives_move rfl ⟨Below.refl _ _, h6⟩
            refine allFrom_cons ?_ ?_
            · intro a_ w_ hk_
              have h149 : a_.eval (.tmp 149) = (.pointer (some ⟨g, 0, none⟩)) := hk_.got 10 149 _ (by kernel_rfl) rfl rfl
              have hg_ : a_.eval (.tmp 148) = .bool false := hk_.got 9 148 _ (by kernel_rfl) rfl rfl
              have hy_ := hk_.want 9 _ 148 false rfl rfl hg_
              have hx_ := hk_.ext
              clear hk_
              refine flow_want rfl hy_ ?_
              unfold gives
              have hc_ : ∀ v, a_.eval (.const v) = v := fun _ => rfl
              have hn_ : ∀ f, a_.eval (.func f) = .func (.func f) #[] #[] := fun _ => rfl
              clear hy_ hg_
              generalize a_.eval = ρ_ at *
              go_simp
              exact (REnd_any w_ (hR7.below hx_)).mono fun e w' hh => ⟨_, hh.1, by rw [← hh.2]; exact ⟨Below.refl _ _, rfl⟩⟩
            refine allFrom_cons ?_ ?_
            · intro a_ w_ hk_
              have h7 : a_.eval (.tmp 7) = .pointer (some ⟨gz, 0, none⟩) := hk_.old 7 (by kernel_rfl)
              have hg_ : a_.eval (.tmp 148) = .bool false := hk_.got 9 148 _ (by kernel_rfl) rfl rfl
              have hy_ := hk_.want 9 _ 148 false rfl rfl hg_
              have hx_ := hk_.ext
              clear hk_
              refine flow_want rfl hy_ ?_
              exact gives_load_agg rfl h7 (aggR _ _) (blk_cells (hz7.below hx_ hz7.lt)) ⟨Below.refl _ _, rfl⟩
            refine allFrom_cons ?_ ?_
            · intro a_ w_ hk_
              have h151 : a_.eval (.tmp 151) = (.agg (rcs b3 e3).toArray) := hk_.got 12 151 _ (by kernel_rfl) rfl rfl
              have hg_ : a_.eval (.tmp 148) = .bool false := hk_.got 9 148 _ (by kernel_rfl) rfl rfl
              have hy_ := hk_.want 9 _ 148 false rfl rfl hg_
              have hx_ := hk_.ext
              clear hk_
              refine flow_want rfl hy_ ?_
              unfold gives
              have hc_ : ∀ v, a_.eval (.const v) = v := fun _ => rfl
              have hn_ : ∀ f, a_.eval (.func f) = .func (.func f) #[] #[] := fun _ => rfl
              clear hy_ hg_
              generalize a_.eval = ρ_ at *
              go_simp
              exact (refEnd_any w_ b3 e3).mono fun e w' hh => ⟨_, hh.1, hh.2, rfl⟩
            refine allFrom_cons ?_ ?_
            · intro a_ w_ hk_
              have h150 : a_.eval (.tmp 150) = (.int .i64 (endE ⟨b3, e3⟩)) := hk_.got 11 150 _ (by kernel_rfl) rfl rfl
              have h152 : a_.eval (.tmp 152) = (.int .i64 (endE ⟨b3, e3⟩)) := hk_.got 13 152 _ (by kernel_rfl) rfl rfl
              have hg_ : a_.eval (.tmp 148) = .bool false := hk_.got 9 148 _ (by kernel_rfl) rfl rfl
              have hy_ := hk_.want 9 _ 148 false rfl rfl hg_
              have hx_ := hk_.ext
              clear hk_
              refine flow_want rfl hy_ ?_
              unfold gives
              have hc_ : ∀ v, a_.eval (.const v) = v := fun _ => rfl
              have hn_ : ∀ f, a_.eval (.func f) = .func (.func f) #[] #[] := fun _ => rfl
              clear hy_ hg_
              generalize a_.eval = ρ_ at *
              go_simp
              exact ⟨Below.refl _ _, rfl⟩
            exact allFrom_nil
          intro f_ w_ hx_ hf_
          have h139 : f_ 139 = (.bool true) := hf_ 0 139 _ (by decide) rfl rfl
          have h140 : f_ 140 = (.bool false) := hf_ 1 140 _ (by decide) rfl rfl
          have h141 : f_ 141 = (.bool false) := hf_ 2 141 _ (by decide) rfl rfl
          have h142 : f_ 142 = (.pointer (some ⟨g, 0, none⟩)) := hf_ 3 142 _ (by decide) rfl rfl
          have h143 : f_ 143 = (.int .i64 e3) := hf_ 4 143 _ (by decide) rfl rfl
          have h144 : f_ 144 = (.pointer (some ⟨gz, 1, none⟩)) := hf_ 5 144 _ (by decide) rfl rfl
          have h145 : f_ 145 = (.int .i64 e3) := hf_ 6 145 _ (by decide) rfl rfl
          have h146 : f_ 146 = (.bool false) := hf_ 7 146 _ (by decide) rfl rfl
          have h147 : f_ 147 = (.bool false) := hf_ 8 147 _ (by decide) rfl rfl
          have h148 : f_ 148 = (.bool false) := hf_ 9 148 _ (by decide) rfl rfl
          have h149 : f_ 149 = (.pointer (some ⟨g, 0, none⟩)) := hf_ 10 149 _ (by decide) rfl rfl
          have h150 : f_ 150 = (.int .i64 (endE ⟨b3, e3⟩)) := hf_ 11 150 _ (by decide) rfl rfl
          have h151 : f_ 151 = (.agg (rcs b3 e3).toArray) := hf_ 12 151 _ (by decide) rfl rfl
          have h152 : f_ 152 = (.int .i64 (endE ⟨b3, e3⟩)) := hf_ 13 152 _ (by decide) rfl rfl
          have h153 : f_ 153 = (.bool false) := hf_ 14 153 _ (by decide) rfl rfl
          simp only [mix, List.drop_succ_cons, List.drop_zero, h139, h140, h141, h142, h143, h144, h145, h146, h147, h148, h149, h150, h151, h152, h153]
          clear h139 h140 h141 h142 h143 h144 h145 h146 h147 h148 h149 h150 h151 h152 h153
          clear hf_
          have hR8 := hR7.below hx_
          have hz8 := hz7.below hx_ hz7.lt
          have hb08 := bx_trans hb07 hx_
          go_wp2
          go_roundw
          case rel => exact ⟨i + 1, b3, e3, by omega, by go_num, hl3, ⟨A7, c7, hR8⟩, hz8, hb08⟩
          case measure => simp [intOf]; omega
        · have hV : hashV ⟨sb, se⟩ = List.replicate 32 0 := by unfold hashV; rw [if_neg (by rw [h32]; decide)]
          have hzl0 : (List.replicate 32 (0 : UInt8)).length = 32 := by simp
          have heq : ∀ w, (Op.equalIn 10000 25 (.agg ((List.replicate 32 (0 : UInt8)).map cb).toArray) (.agg #[.int .u8 0, .int .u8 0, .int .u8 0, .int .u8 0, .int .u8 0, .int .u8 0, .int .u8 0, .int .u8 0, .int .u8 0, .int .u8 0, .int .u8 0, .int .u8 0, .int .u8 0, .int .u8 0, .int .u8 0, .int .u8 0, .int .u8 0, .int .u8 0, .int .u8 0, .int .u8 0, .int .u8 0, .int .u8 0, .int .u8 0, .int .u8 0, .int .u8 0, .int .u8 0, .int .u8 0, .int .u8 0, .int .u8 0, .int .u8 0, .int .u8 0, .int .u8 0])).run Try.prog w = .ok true w := fun w => by
            have := eq_hash _ _ hzl0 hzl0 w
            rw [show (List.replicate 32 (0 : UInt8) == List.replicate 32 0) = true from by decide] at this
            exact this
          have HEQ := hid heq
          clear heq
          generalize List.replicate 32 (0 : UInt8) = z at *
          have hzl : z.length = 32 := hzl0
          have hvl : z.length = 32 := hzl0
          have TV : Hid (takeV ⟨sb, se⟩ 32 = []) := hid h32
          have HV := hid hV
          clear hzl0 h32 hV
          go_wp2_with fail
          refine (RHash_any wr hR (by show sb.length ≤ _; omega)).mono ?_
          rintro e w3 ⟨rfl, hR3, hG3⟩
          have hb3 := hbr.trans (below_rg hG3 hgw hbr.size)
          have hz3 : Blk w3 gz tR (rcs sb se).toArray := (hG3.block gz hz.lt (fun e => by injection e with e; exact hgz e.symm)).trans hz
          obtain ⟨A3, c3, hR3⟩ := hR3
          have hl3 := takeS_len ⟨sb, se⟩ 32
          rw [HV.out]
          go_wp2_with (first
            | (refine wpList_alloc rfl _ rfl zeroH ?_; intro gh wh hgh hgh' hblkh hbh; have hneh : gz ≠ gh := Nat.ne_of_lt (Nat.lt_of_lt_of_le hz3.lt hgh); have hneh2 : g ≠ gh := Nat.ne_of_lt (Nat.lt_of_lt_of_le hR3.blk.lt hgh); have hzh := hz3.below hbh hz3.lt; have hRh := hR3.below hbh; have hb0h := bx_trans hb3 hbh; have hleh : w.heap.size ≤ gh := Nat.le_trans hb3.size hgh)
            | (refine wpList_store_agg rfl _ _ _ rfl _ _ rfl (z.map cb).toArray rfl (aggHS hvl) hblkh (szH hvl) (one_cbA z) ?_; intro wi hpi; have hblki := hpi.blk; rw [splH hvl] at hblki; have hzi := hpi.other hzh hneh; have hRi := hRh.other hblkh hpi (by decide) hneh2; have hb0i := bx_put hb0h hpi hleh)
            | (refine wpList_load_agg rfl _ _ rfl _ _ rfl (rcs sb se) (aggR _ _) (blk_cells hzi) ?_))
          refine (refRaw_any wi sb se 32 (by omega) (by omega)).mono ?_
          rintro y w4 ⟨rfl, hb4⟩
          rw [RS32.out.1, RS32.out.2]
          rw [TV.out]
          obtain ⟨Ai, ci, hRi⟩ := hRi
          have hR4 := hRi.below hb4
          have hz4 := hzi.below hb4 hzi.lt
          have hb04 := bx_trans hb0i hb4
          have hblkh4 := hblki.below hb4 hblki.lt
          generalize takeS ⟨sb, se⟩ 32 = s3 at *
          rcases s3 with ⟨b3, e3⟩
          replace hl3 : b3.length ≤ 300 := Nat.le_trans hl3 hsl
          go_wp2_with (first
            | (refine wpList_alloc rfl _ rfl zeroR ?_; intro g5 w5 hg5 hg5' hblk5 hb5; have hR5 := hR4.below hb5; have hz5 := hz4.below hb5 hz4.lt; have hb05 := bx_trans hb04 hb5; have hne5 : gz ≠ g5 := Nat.ne_of_lt (Nat.lt_of_lt_of_le hz4.lt hg5); have hne6 : g ≠ g5 := Nat.ne_of_lt (Nat.lt_of_lt_of_le hR4.blk.lt hg5); have hle5 : w.heap.size ≤ g5 := Nat.le_trans hb04.size hg5)
            | (refine wpList_store_agg rfl _ _ _ rfl _ _ rfl (rcs b3 e3).toArray rfl (aggR _ _) hblk5 (Nat.le_refl 2) (oneR _ _) ?_; intro w6 hp6; have hblk6 : Blk w6 g5 tR (rcs b3 e3).toArray := hp6.blk; have hz6 := hp6.other hz5 hne5; have hR6 := hR5.other hblk5 hp6 (by decide) hne6; have hb06 := bx_put hb05 hp6 hle5)
            | (refine wpList_load_agg rfl _ _ rfl _ _ rfl (rcs b3 e3) (aggR _ _) (blk_cells hblk6) ?_)
            | (refine wpList_store_agg rfl _ _ _ rfl _ _ rfl (rcs b3 e3).toArray rfl (aggR _ _) hz6 (Nat.le_refl 2) (oneR _ _) ?_; intro w7 hp7; have hz7 : Blk w7 gz tR (rcs b3 e3).toArray := hp7.blk; have hR7 := Rr.other hR6 hz6 hp7 (by decide) hgz; have hb07 := bx_put hb06 hp7 hgzw; have hblkh7 := hp7.other (hp6.other (hblkh4.below hb5 hblkh4.lt) (Nat.ne_of_lt (Nat.lt_of_lt_of_le hblkh4.lt hg5))) hneh.symm))
          refine wp_flow (by kernel_rfl) [0, 1, 3, 7, 7, 31, 63, 127, 255, 511, 1023, 2047, 4095, 8191, 4095, 20479, 65535, 131071, 262143, 524287, 1048575, 524287, 2621439, 8388607, 16777215, 33554431, 67108863] 26 [false, false, false, false, false, false, false, false, false, false, false, false, false, false, false, false, false, false, false, false, false, false, false, false, false, false, false, false, false, false, false, false, false, false, false, false, false, false, false, false, false, false, false, false, false, false, false, false, false, false, false, false, false, false, false, false, false, false, false, false, false, false, false, false, false, false, true, true, true, true, true, true, true, true, true, true, true, true, true, true, true, true, true, true, true, true, true, true, true, true, true, true] (by kernel_rfl) (by decide) (by kernel_rfl) [FP.eq (.string ⟨#[]⟩), FP.eq (.bool true), FP.eq (.bool true), FP.eq (.agg (z.map cb).toArray), FP.eq (.agg #[.int .u8 0, .int .u8 0, .int .u8 0, .int .u8 0, .int .u8 0, .int .u8 0, .int .u8 0, .int .u8 0, .int .u8 0, .int .u8 0, .int .u8 0, .int .u8 0, .int .u8 0, .int .u8 0, .int .u8 0, .int .u8 0, .int .u8 0, .int .u8 0, .int .u8 0, .int .u8 0, .int .u8 0, .int .u8 0, .int .u8 0, .int .u8 0, .int .u8 0, .int .u8 0, .int .u8 0, .int .u8 0, .int .u8 0, .int .u8 0, .int .u8 0, .int .u8 0]), FP.eq (.bool true), FP.eq (.bool true), FP.eq (.bool true), FP.any, FP.any, FP.any, FP.eq undef, FP.any, FP.any, FP.any, FP.any, FP.any, FP.any, FP.eq undef, FP.any, FP.any, FP.any, FP.any, FP.any, FP.any, FP.eq (.bool true)] ?_ ?_
          · refine allFrom_cons ?_ ?_
            · intro a_ w_ hk_
              have h22 : a_.eval (.tmp 22) = .string ⟨#[]⟩ := hk_.old 22 (by kernel_rfl)
              have hx_ := hk_.ext
              clear hk_
              refine flow_plain rfl ?_
              exact gives_move rfl ⟨Below.refl _ _, h22⟩
            refine allFrom_cons ?_ ?_
            · intro a_ w_ hk_
              have h66 : a_.eval (.tmp 66) = (.string ⟨#[]⟩) := hk_.got 0 66 _ (by kernel_rfl) rfl rfl
              have hx_ := hk_.ext
              clear hk_
              refine flow_plain rfl ?_
              unfold gives
              have hc_ : ∀ v, a_.eval (.const v) = v := fun _ => rfl
              have hn_ : ∀ f, a_.eval (.func f) = .func (.func f) #[] #[] := fun _ => rfl
              generalize a_.eval = ρ_ at *
              go_simp
              exact ⟨Below.refl _ _, rfl⟩
            refine allFrom_cons ?_ ?_
            · intro a_ w_ hk_
              have h67 : a_.eval (.tmp 67) = (.bool true) := hk_.got 1 67 _ (by kernel_rfl) rfl rfl
              have hx_ := hk_.ext
              clear hk_
              refine flow_plain rfl ?_
              exact gives_move rfl ⟨Below.refl _ _, h67⟩
            refine allFrom_cons ?_ ?_
            · intro a_ w_ hk_
              have h20 : a_.eval (.tmp 20) = .pointer (some ⟨gh, 0, none⟩) := hk_.old 20 (by kernel_rfl)
              have hg_ : a_.eval (.tmp 68) = .bool true := hk_.got 2 68 _ (by kernel_rfl) rfl rfl
              have hy_ := hk_.want 2 _ 68 true rfl rfl hg_
              have hx_ := hk_.ext
              clear hk_
              refine flow_want rfl hy_ ?_
              exact gives_load_agg rfl h20 (aggHL hzl) (blk_cells (hblkh7.below hx_ hblkh7.lt)) ⟨Below.refl _ _, rfl⟩
            refine allFrom_cons ?_ ?_
            · intro a_ w_ hk_
              have hg_ : a_.eval (.tmp 68) = .bool true := hk_.got 2 68 _ (by kernel_rfl) rfl rfl
              have hy_ := hk_.want 2 _ 68 true rfl rfl hg_
              have hx_ := hk_.ext
              clear hk_
              refine flow_want rfl hy_ ?_
              unfold gives
              have hc_ : ∀ v, a_.eval (.const v) = v := fun _ => rfl
              have hn_ : ∀ f, a_.eval (.func f) = .func (.func f) #[] #[] := fun _ => rfl
              clear hy_ hg_
              generalize a_.eval = ρ_ at *
              go_simp
              exact ⟨Below.refl _ _, rfl⟩
            refine allFrom_cons ?_ ?_
            · intro a_ w_ hk_
              have h69 : a_.eval (.tmp 69) = (.agg (z.map cb).toArray) := hk_.got 3 69 _ (by kernel_rfl) rfl rfl
              have h70 : a_.eval (.tmp 70) = (.agg #[.int .u8 0, .int .u8 0, .int .u8 0, .int .u8 0, .int .u8 0, .int .u8 0, .int .u8 0, .int .u8 0, .int .u8 0, .int .u8 0, .int .u8 0, .int .u8 0, .int .u8 0, .int .u8 0, .int .u8 0, .int .u8 0, .int .u8 0, .int .u8 0, .int .u8 0, .int .u8 0, .int .u8 0, .int .u8 0, .int .u8 0, .int .u8 0, .int .u8 0, .int .u8 0, .int .u8 0, .int .u8 0, .int .u8 0, .int .u8 0, .int .u8 0, .int .u8 0]) := hk_.got 4 70 _ (by kernel_rfl) rfl rfl
              have hg_ : a_.eval (.tmp 68) = .bool true := hk_.got 2 68 _ (by kernel_rfl) rfl rfl
              have hy_ := hk_.want 2 _ 68 true rfl rfl hg_
              have hx_ := hk_.ext
              clear hk_
              refine flow_want rfl hy_ ?_
              unfold gives
              have hc_ : ∀ v, a_.eval (.const v) = v := fun _ => rfl
              have hn_ : ∀ f, a_.eval (.func f) = .func (.func f) #[] #[] := fun _ => rfl
              clear hy_ hg_
              have he := HEQ.out
              generalize a_.eval = ρ_ at *
              go_simp
              exact ⟨Below.refl _ _, rfl⟩
            refine allFrom_cons ?_ ?_
            · intro a_ w_ hk_
              have h68 : a_.eval (.tmp 68) = (.bool true) := hk_.got 2 68 _ (by kernel_rfl) rfl rfl
              have h71 : a_.eval (.tmp 71) = (.bool true) := hk_.got 5 71 _ (by kernel_rfl) rfl rfl
              have hx_ := hk_.ext
              clear hk_
              refine flow_plain rfl ?_
              exact gives_pick rfl h68 ⟨Below.refl _ _, h71⟩
            refine allFrom_cons ?_ ?_
            · intro a_ w_ hk_
              have h72 : a_.eval (.tmp 72) = (.bool true) := hk_.got 6 72 _ (by kernel_rfl) rfl rfl
              have hx_ := hk_.ext
              clear hk_
              refine flow_plain rfl ?_
              exact gives_move rfl ⟨Below.refl _ _, h72⟩
            refine allFrom_cons ?_ ?_
            · intro a_ w_ hk_
              have h22 : a_.eval (.tmp 22) = .string ⟨#[]⟩ := hk_.old 22 (by kernel_rfl)
              have hg_ : a_.eval (.tmp 73) = .bool true := hk_.got 7 73 _ (by kernel_rfl) rfl rfl
              have hy_ := hk_.want 7 _ 73 true rfl rfl hg_
              have hx_ := hk_.ext
              clear hk_
              exact flow_skip rfl hy_ (by decide) trivial
            refine allFrom_cons ?_ ?_
            · intro a_ w_ hk_
              have hg_ : a_.eval (.tmp 73) = .bool true := hk_.got 7 73 _ (by kernel_rfl) rfl rfl
              have hy_ := hk_.want 7 _ 73 true rfl rfl hg_
              have hx_ := hk_.ext
              clear hk_
              exact flow_skip rfl hy_ (by decide) trivial
            refine allFrom_cons ?_ ?_
            · intro a_ w_ hk_
              have hg_ : a_.eval (.tmp 73) = .bool true := hk_.got 7 73 _ (by kernel_rfl) rfl rfl
              have hy_ := hk_.want 7 _ 73 true rfl rfl hg_
              have hx_ := hk_.ext
              clear hk_
              exact flow_skip rfl hy_ (by decide) trivial
            refine allFrom_cons ?_ ?_
            · intro a_ w_ hk_
              have hg_ : a_.eval (.tmp 73) = .bool true := hk_.got 7 73 _ (by kernel_rfl) rfl rfl
              have hy_ := hk_.want 7 _ 73 true rfl rfl hg_
              have hx_ := hk_.ext
              clear hk_
              exact flow_skip rfl hy_ (by decide) rfl
            refine allFrom_cons ?_ ?_
            · intro a_ w_ hk_
              have h22 : a_.eval (.tmp 22) = .string ⟨#[]⟩ := hk_.old 22 (by kernel_rfl)
              have hg_ : a_.eval (.tmp 77) = undef := hk_.got 11 77 _ (by kernel_rfl) rfl rfl
              have hy_ := hk_.wantU 11 _ 77 rfl rfl hg_
              clear hk_
              exact flow_skipU rfl hy_ trivial
            refine allFrom_cons ?_ ?_
            · intro a_ w_ hk_
              have hg_ : a_.eval (.tmp 77) = undef := hk_.got 11 77 _ (by kernel_rfl) rfl rfl
              have hy_ := hk_.wantU 11 _ 77 rfl rfl hg_
              clear hk_
              exact flow_skipU rfl hy_ trivial
            refine allFrom_cons ?_ ?_
            · intro a_ w_ hk_
              have h20 : a_.eval (.tmp 20) = .pointer (some ⟨gh, 0, none⟩) := hk_.old 20 (by kernel_rfl)
              have hg_ : a_.eval (.tmp 77) = undef := hk_.got 11 77 _ (by kernel_rfl) rfl rfl
              have hy_ := hk_.wantU 11 _ 77 rfl rfl hg_
              clear hk_
              exact flow_skipU rfl hy_ trivial
            refine allFrom_cons ?_ ?_
            · intro a_ w_ hk_
              have hg_ : a_.eval (.tmp 77) = undef := hk_.got 11 77 _ (by kernel_rfl) rfl rfl
              have hy_ := hk_.wantU 11 _ 77 rfl rfl hg_
              clear hk_
              exact flow_skipU rfl hy_ trivial
            refine allFrom_cons ?_ ?_
            · intro a_ w_ hk_
              have hg_ : a_.eval (.tmp 77) = undef := hk_.got 11 77 _ (by kernel_rfl) rfl rfl
              have hy_ := hk_.wantU 11 _ 77 rfl rfl hg_
              clear hk_
              exact flow_skipU rfl hy_ trivial
            refine allFrom_cons ?_ ?_
            · intro a_ w_ hk_
              have h77 : a_.eval (.tmp 77) = undef := hk_.got 11 77 _ (by kernel_rfl) rfl rfl
              have hg_ : a_.eval (.tmp 73) = .bool true := hk_.got 7 73 _ (by kernel_rfl) rfl rfl
              have hy_ := hk_.want 7 _ 73 true rfl rfl hg_
              have hx_ := hk_.ext
              clear hk_
              exact flow_skip rfl hy_ (by decide) trivial
            refine allFrom_cons ?_ ?_
            · intro a_ w_ hk_
              have hg_ : a_.eval (.tmp 73) = .bool true := hk_.got 7 73 _ (by kernel_rfl) rfl rfl
              have hy_ := hk_.want 7 _ 73 true rfl rfl hg_
              have hx_ := hk_.ext
              clear hk_
              exact flow_skip rfl hy_ (by decide) rfl
            refine allFrom_cons ?_ ?_
            · intro a_ w_ hk_
              have h22 : a_.eval (.tmp 22) = .string ⟨#[]⟩ := hk_.old 22 (by kernel_rfl)
              have hg_ : a_.eval (.tmp 84) = undef := hk_.got 18 84 _ (by kernel_rfl) rfl rfl
              have hy_ := hk_.wantU 18 _ 84 rfl rfl hg_
              clear hk_
              exact flow_skipU rfl hy_ trivial
            refine allFrom_cons ?_ ?_
            · intro a_ w_ hk_
              have hg_ : a_.eval (.tmp 84) = undef := hk_.got 18 84 _ (by kernel_rfl) rfl rfl
              have hy_ := hk_.wantU 18 _ 84 rfl rfl hg_
              clear hk_
              exact flow_skipU rfl hy_ trivial
            refine allFrom_cons ?_ ?_
            · intro a_ w_ hk_
              have h20 : a_.eval (.tmp 20) = .pointer (some ⟨gh, 0, none⟩) := hk_.old 20 (by kernel_rfl)
              have hg_ : a_.eval (.tmp 84) = undef := hk_.got 18 84 _ (by kernel_rfl) rfl rfl
              have hy_ := hk_.wantU 18 _ 84 rfl rfl hg_
              clear hk_
              exact flow_skipU rfl hy_ trivial
            refine allFrom_cons ?_ ?_
            · intro a_ w_ hk_
              have hg_ : a_.eval (.tmp 84) = undef := hk_.got 18 84 _ (by kernel_rfl) rfl rfl
              have hy_ := hk_.wantU 18 _ 84 rfl rfl hg_
              clear hk_
              exact flow_skipU rfl hy_ trivial
            refine allFrom_cons ?_ ?_
            · intro a_ w_ hk_
              have hg_ : a_.eval (.tmp 84) = undef := hk_.got 18 84 _ (by kernel_rfl) rfl rfl
              have hy_ := hk_.wantU 18 _ 84 rfl rfl hg_
              clear hk_
              exact flow_skipU rfl hy_ trivial
            refine allFrom_cons ?_ ?_
            · intro a_ w_ hk_
              have h84 : a_.eval (.tmp 84) = undef := hk_.got 18 84 _ (by kernel_rfl) rfl rfl
              have hg_ : a_.eval (.tmp 73) = .bool true := hk_.got 7 73 _ (by kernel_rfl) rfl rfl
              have hy_ := hk_.want 7 _ 73 true rfl rfl hg_
              have hx_ := hk_.ext
              clear hk_
              exact flow_skip rfl hy_ (by decide) trivial
            refine allFrom_cons ?_ ?_
            · intro a_ w_ hk_
              have h73 : a_.eval (.tmp 73) = (.bool true) := hk_.got 7 73 _ (by kernel_rfl) rfl rfl
              have hx_ := hk_.ext
              clear hk_
              refine flow_plain rfl ?_
              exact gives_pick rfl h73 ⟨Below.refl _ _, rfl⟩
            exact allFrom_nil
          intro f_ w_ hx_ hf_
          have h66 : f_ 66 = (.string ⟨#[]⟩) := hf_ 0 66 _ (by decide) rfl rfl
          have h67 : f_ 67 = (.bool true) := hf_ 1 67 _ (by decide) rfl rfl
          have h68 : f_ 68 = (.bool true) := hf_ 2 68 _ (by decide) rfl rfl
          have h69 : f_ 69 = (.agg (z.map cb).toArray) := hf_ 3 69 _ (by decide) rfl rfl
          have h70 : f_ 70 = (.agg #[.int .u8 0, .int .u8 0, .int .u8 0, .int .u8 0, .int .u8 0, .int .u8 0, .int .u8 0, .int .u8 0, .int .u8 0, .int .u8 0, .int .u8 0, .int .u8 0, .int .u8 0, .int .u8 0, .int .u8 0, .int .u8 0, .int .u8 0, .int .u8 0, .int .u8 0, .int .u8 0, .int .u8 0, .int .u8 0, .int .u8 0, .int .u8 0, .int .u8 0, .int .u8 0, .int .u8 0, .int .u8 0, .int .u8 0, .int .u8 0, .int .u8 0, .int .u8 0]) := hf_ 4 70 _ (by decide) rfl rfl
          have h71 : f_ 71 = (.bool true) := hf_ 5 71 _ (by decide) rfl rfl
          have h72 : f_ 72 = (.bool true) := hf_ 6 72 _ (by decide) rfl rfl
          have h73 : f_ 73 = (.bool true) := hf_ 7 73 _ (by decide) rfl rfl
          have h77 : f_ 77 = undef := hf_ 11 77 _ (by decide) rfl rfl
          have h84 : f_ 84 = undef := hf_ 18 84 _ (by decide) rfl rfl
          have h91 : f_ 91 = (.bool true) := hf_ 25 91 _ (by decide) rfl rfl
          simp only [mix, List.drop_succ_cons, List.drop_zero, h66, h67, h68, h69, h70, h71, h72, h73, h77, h84, h91]
          clear h66 h67 h68 h69 h70 h71 h72 h73 h77 h84 h91
          clear hf_
          obtain ⟨A7, c7, hR7⟩ := hR7
          replace hR7 : Rr _ g ⟨b3, e3⟩ := ⟨A7, c7, hR7.below hx_⟩
          replace hz7 := hz7.below hx_ hz7.lt
          replace hb07 := bx_trans hb07 hx_
          clear hx_
          go_wp2_with fail
          obtain ⟨A7, c7, hR7⟩ := hR7
          refine wp_flow (by kernel_rfl) [0, 1, 3, 7, 15, 7, 39, 127, 255, 511, 1023, 2047, 1023, 8191, 16383, 32767] 15 [false, false, false, false, false, false, false, false, false, false, false, false, false, false, false, false, false, false, false, false, false, false, false, false, false, false, false, false, false, false, false, false, false, false, false, false, false, false, false, false, false, false, false, false, false, false, false, false, false, false, false, false, false, false, false, false, false, false, false, false, false, false, false, false, false, false, false, false, false, false, false, false, false, false, false, false, false, false, false, false, false, false, false, false, false, false, false, false, false, false, false, false, false, false, false, false, false, false, false, false, false, false, false, false, false, false, false, false, false, false, false, false, false, false, false, false, false, false, false, false, false, false, false, false, false, false, false, false, false, false, false, false, false, false, false, false, false, false, false, true, true, true, true, true, true, true, true, true, true, true, true, true, true, true, false] (by kernel_rfl) (by decide) (by kernel_rfl) [FP.eq (.bool true), FP.eq (.bool false), FP.eq (.bool false), FP.eq (.pointer (some ⟨g, 0, none⟩)), FP.eq (.int .i64 e3), FP.eq (.pointer (some ⟨gz, 1, none⟩)), FP.eq (.int .i64 e3), FP.eq (.bool false), FP.eq (.bool false), FP.eq (.bool false), FP.eq (.pointer (some ⟨g, 0, none⟩)), FP.eq (.int .i64 (endE ⟨b3, e3⟩)), FP.eq (.agg (rcs b3 e3).toArray), FP.eq (.int .i64 (endE ⟨b3, e3⟩)), FP.eq (.bool false)] ?_ ?_
          · refine allFrom_cons ?_ ?_
            · intro a_ w_ hk_
              have h10 : a_.eval (.tmp 10) = .bool true := hk_.old 10 (by kernel_rfl)
              have hx_ := hk_.ext
              clear hk_
              refine flow_plain rfl ?_
              exact gives_move rfl ⟨Below.refl _ _, h10⟩
            refine allFrom_cons ?_ ?_
            · intro a_ w_ hk_
              have h139 : a_.eval (.tmp 139) = (.bool true) := hk_.got 0 139 _ (by kernel_rfl) rfl rfl
              have hx_ := hk_.ext
              clear hk_
              refine flow_plain rfl ?_
              unfold gives
              have hc_ : ∀ v, a_.eval (.const v) = v := fun _ => rfl
              have hn_ : ∀ f, a_.eval (.func f) = .func (.func f) #[] #[] := fun _ => rfl
              generalize a_.eval = ρ_ at *
              go_simp
              exact ⟨Below.refl _ _, rfl⟩
            refine allFrom_cons ?_ ?_
            · intro a_ w_ hk_
              have h140 : a_.eval (.tmp 140) = (.bool false) := hk_.got 1 140 _ (by kernel_rfl) rfl rfl
              have hx_ := hk_.ext
              clear hk_
              refine flow_plain rfl ?_
              exact gives_move rfl ⟨Below.refl _ _, h140⟩
            refine allFrom_cons ?_ ?_
            · intro a_ w_ hk_
              have h6 : a_.eval (.tmp 6) = .pointer (some ⟨g, 0, none⟩) := hk_.old 6 (by kernel_rfl)
              have hg_ : a_.eval (.tmp 141) = .bool false := hk_.got 2 141 _ (by kernel_rfl) rfl rfl
              have hy_ := hk_.want 2 _ 141 false rfl rfl hg_
              have hx_ := hk_.ext
              clear hk_
              refine flow_want rfl hy_ ?_
              exact gives_move rfl ⟨Below.refl _ _, h6⟩
            refine allFrom_cons ?_ ?_
            · intro a_ w_ hk_
              have h142 : a_.eval (.tmp 142) = (.pointer (some ⟨g, 0, none⟩)) := hk_.got 3 142 _ (by kernel_rfl) rfl rfl
              have hg_ : a_.eval (.tmp 141) = .bool false := hk_.got 2 141 _ (by kernel_rfl) rfl rfl
              have hy_ := hk_.want 2 _ 141 false rfl rfl hg_
              have hx_ := hk_.ext
              clear hk_
              refine flow_want rfl hy_ ?_
              unfold gives
              have hc_ : ∀ v, a_.eval (.const v) = v := fun _ => rfl
              have hn_ : ∀ f, a_.eval (.func f) = .func (.func f) #[] #[] := fun _ => rfl
              clear hy_ hg_
              generalize a_.eval = ρ_ at *
              go_simp
              exact (RErr_any w_ (hR7.below hx_)).mono fun e w' hh => ⟨_, hh.1, by rw [← hh.2]; exact ⟨Below.refl _ _, rfl⟩⟩
            refine allFrom_cons ?_ ?_
            · intro a_ w_ hk_
              have h7 : a_.eval (.tmp 7) = .pointer (some ⟨gz, 0, none⟩) := hk_.old 7 (by kernel_rfl)
              have hg_ : a_.eval (.tmp 141) = .bool false := hk_.got 2 141 _ (by kernel_rfl) rfl rfl
              have hy_ := hk_.want 2 _ 141 false rfl rfl hg_
              have hx_ := hk_.ext
              clear hk_
              refine flow_want rfl hy_ ?_
              unfold gives
              have hc_ : ∀ v, a_.eval (.const v) = v := fun _ => rfl
              have hn_ : ∀ f, a_.eval (.func f) = .func (.func f) #[] #[] := fun _ => rfl
              clear hy_ hg_
              generalize a_.eval = ρ_ at *
              go_simp
              exact ⟨Below.refl _ _, rfl⟩
            refine allFrom_cons ?_ ?_
            · intro a_ w_ hk_
              have h144 : a_.eval (.tmp 144) = (.pointer (some ⟨gz, 1, none⟩)) := hk_.got 5 144 _ (by kernel_rfl) rfl rfl
              have hg_ : a_.eval (.tmp 141) = .bool false := hk_.got 2 141 _ (by kernel_rfl) rfl rfl
              have hy_ := hk_.want 2 _ 141 false rfl rfl hg_
              have hx_ := hk_.ext
              clear hk_
              refine flow_want rfl hy_ ?_
              unfold gives
              have hc_ : ∀ v, a_.eval (.const v) = v := fun _ => rfl
              have hn_ : ∀ f, a_.eval (.func f) = .func (.func f) #[] #[] := fun _ => rfl
              clear hy_ hg_
              have hcell := cellR1 (hz7.below hx_ hz7.lt)
              generalize a_.eval = ρ_ at *
              go_simp
              exact ⟨Below.refl _ _, rfl⟩
            refine allFrom_cons ?_ ?_
            · intro a_ w_ hk_
              have h143 : a_.eval (.tmp 143) = (.int .i64 e3) := hk_.got 4 143 _ (by kernel_rfl) rfl rfl
              have h145 : a_.eval (.tmp 145) = (.int .i64 e3) := hk_.got 6 145 _ (by kernel_rfl) rfl rfl
              have hg_ : a_.eval (.tmp 141) = .bool false := hk_.got 2 141 _ (by kernel_rfl) rfl rfl
              have hy_ := hk_.want 2 _ 141 false rfl rfl hg_
              have hx_ := hk_.ext
              clear hk_
              refine flow_want rfl hy_ ?_
              unfold gives
              have hc_ : ∀ v, a_.eval (.const v) = v := fun _ => rfl
              have hn_ : ∀ f, a_.eval (.func f) = .func (.func f) #[] #[] := fun _ => rfl
              clear hy_ hg_
              generalize a_.eval = ρ_ at *
              go_simp
              exact ⟨Below.refl _ _, rfl⟩
            refine allFrom_cons ?_ ?_
            · intro a_ w_ hk_
              have h141 : a_.eval (.tmp 141) = (.bool false) := hk_.got 2 141 _ (by kernel_rfl) rfl rfl
              have h146 : a_.eval (.tmp 146) = (.bool false) := hk_.got 7 146 _ (by kernel_rfl) rfl rfl
              have hx_ := hk_.ext
              clear hk_
              refine flow_plain rfl ?_
              exact gives_pick rfl h141 ⟨Below.refl _ _, h146⟩
            refine allFrom_cons ?_ ?_
            · intro a_ w_ hk_
              have h147 : a_.eval (.tmp 147) = (.bool false) := hk_.got 8 147 _ (by kernel_rfl) rfl rfl
              have hx_ := hk_.ext
              clear hk_
              refine flow_plain rfl ?_
              exact gives_move rfl ⟨Below.refl _ _, h147⟩
            refine allFrom_cons ?_ ?_
            · intro a_ w_ hk_
              have h6 : a_.eval (.tmp 6) = .pointer (some ⟨g, 0, none⟩) := hk_.old 6 (by kernel_rfl)
              have hg_ : a_.eval (.tmp 148) = .bool false := hk_.got 9 148 _ (by kernel_rfl) rfl rfl
              have hy_ := hk_.want 9 _ 148 false rfl rfl hg_
              have hx_ := hk_.ext
              clear hk_
              refine flow_want rfl hy_ ?_
              exact gives_move rfl ⟨Below.refl _ _, h6⟩
            refine allFrom_cons ?_ ?_
            · intro a_ w_ hk_
              have h149 : a_.eval (.tmp 149) = (.pointer (some ⟨g, 0, none⟩)) := hk_.got 10 149 _ (by kernel_rfl) rfl rfl
              have hg_ : a_.eval (.tmp 148) = .bool false := hk_.got 9 148 _ (by kernel_rfl) rfl rfl
              have hy_ := hk_.want 9 _ 148 false rfl rfl hg_
              have hx_ := hk_.ext
              clear hk_
              refine flow_want rfl hy_ ?_
              unfold gives
              have hc_ : ∀ v, a_.eval (.const v) = v := fun _ => rfl
              have hn_ : ∀ f, a_.eval (.func f) = .func (.func f) #[] #[] := fun _ => rfl
              clear hy_ hg_
              generalize a_.eval = ρ_ at *
              go_simp
              exact (REnd_any w_ (hR7.below hx_)).mono fun e w' hh => ⟨_, hh.1, by rw [← hh.2]; exact ⟨Below.refl _ _, rfl⟩⟩
            refine allFrom_cons ?_ ?_
            · intro a_ w_ hk_
              have h7 : a_.eval (.tmp 7) = .pointer (some ⟨gz, 0, none⟩) := hk_.old 7 (by kernel_rfl)
              have hg_ : a_.eval (.tmp 148) = .bool false := hk_.got 9 148 _ (by kernel_rfl) rfl rfl
              have hy_ := hk_.want 9 _ 148 false rfl rfl hg_
              have hx_ := hk_.ext
              clear hk_
              refine flow_want rfl hy_ ?_
              exact gives_load_agg rfl h7 (aggR _ _) (blk_cells (hz7.below hx_ hz7.lt)) ⟨Below.refl _ _, rfl⟩
            refine allFrom_cons ?_ ?_
            · intro a_ w_ hk_
              have h151 : a_.eval (.tmp 151) = (.agg (rcs b3 e3).toArray) := hk_.got 12 151 _ (by kernel_rfl) rfl rfl
              have hg_ : a_.eval (.tmp 148) = .bool false := hk_.got 9 148 _ (by kernel_rfl) rfl rfl
              have hy_ := hk_.want 9 _ 148 false rfl rfl hg_
              have hx_ := hk_.ext
              clear hk_
              refine flow_want rfl hy_ ?_
              unfold gives
              have hc_ : ∀ v, a_.eval (.const v) = v := fun _ => rfl
              have hn_ : ∀ f, a_.eval (.func f) = .func (.func f) #[] #[] := fun _ => rfl
              clear hy_ hg_
              generalize a_.eval = ρ_ at *
              go_simp
              exact (refEnd_any w_ b3 e3).mono fun e w' hh => ⟨_, hh.1, hh.2, rfl⟩
            refine allFrom_cons ?_ ?_
            · intro a_ w_ hk_
              have h150 : a_.eval (.tmp 150) = (.int .i64 (endE ⟨b3, e3⟩)) := hk_.got 11 150 _ (by kernel_rfl) rfl rfl
              have h152 : a_.eval (.tmp 152) = (.int .i64 (endE ⟨b3, e3⟩)) := hk_.got 13 152 _ (by kernel_rfl) rfl rfl
              have hg_ : a_.eval (.tmp 148) = .bool false := hk_.got 9 148 _ (by kernel_rfl) rfl rfl
              have hy_ := hk_.want 9 _ 148 false rfl rfl hg_
              have hx_ := hk_.ext
              clear hk_
              refine flow_want rfl hy_ ?_
              unfold gives
              have hc_ : ∀ v, a_.eval (.const v) = v := fun _ => rfl
              have hn_ : ∀ f, a_.eval (.func f) = .func (.func f) #[] #[] := fun _ => rfl
              clear hy_ hg_
              generalize a_.eval = ρ_ at *
              go_simp
              exact ⟨Below.refl _ _, rfl⟩
            exact allFrom_nil
          intro f_ w_ hx_ hf_
          have h139 : f_ 139 = (.bool true) := hf_ 0 139 _ (by decide) rfl rfl
          have h140 : f_ 140 = (.bool false) := hf_ 1 140 _ (by decide) rfl rfl
          have h141 : f_ 141 = (.bool false) := hf_ 2 141 _ (by decide) rfl rfl
          have h142 : f_ 142 = (.pointer (some ⟨g, 0, none⟩)) := hf_ 3 142 _ (by decide) rfl rfl
          have h143 : f_ 143 = (.int .i64 e3) := hf_ 4 143 _ (by decide) rfl rfl
          have h144 : f_ 144 = (.pointer (some ⟨gz, 1, none⟩)) := hf_ 5 144 _ (by decide) rfl rfl
          have h145 : f_ 145 = (.int .i64 e3) := hf_ 6 145 _ (by decide) rfl rfl
          have h146 : f_ 146 = (.bool false) := hf_ 7 146 _ (by decide) rfl rfl
          have h147 : f_ 147 = (.bool false) := hf_ 8 147 _ (by decide) rfl rfl
          have h148 : f_ 148 = (.bool false) := hf_ 9 148 _ (by decide) rfl rfl
          have h149 : f_ 149 = (.pointer (some ⟨g, 0, none⟩)) := hf_ 10 149 _ (by decide) rfl rfl
          have h150 : f_ 150 = (.int .i64 (endE ⟨b3, e3⟩)) := hf_ 11 150 _ (by decide) rfl rfl
          have h151 : f_ 151 = (.agg (rcs b3 e3).toArray) := hf_ 12 151 _ (by decide) rfl rfl
          have h152 : f_ 152 = (.int .i64 (endE ⟨b3, e3⟩)) := hf_ 13 152 _ (by decide) rfl rfl
          have h153 : f_ 153 = (.bool false) := hf_ 14 153 _ (by decide) rfl rfl
          simp only [mix, List.drop_succ_cons, List.drop_zero, h139, h140, h141, h142, h143, h144, h145, h146, h147, h148, h149, h150, h151, h152, h153]
          clear h139 h140 h141 h142 h143 h144 h145 h146 h147 h148 h149 h150 h151 h152 h153
          clear hf_
          have hR8 := hR7.below hx_
          have hz8 := hz7.below hx_ hz7.lt
          have hb08 := bx_trans hb07 hx_
          go_wp2
          go_roundw
          case rel => exact ⟨i + 1, b3, e3, by omega, by go_num, hl3, ⟨A7, c7, hR8⟩, hz8, hb08⟩
          case measure => simp [intOf]; omega
    · have hnl : (List.replicate 32 (0 : UInt8)).length = 32 := by simp
      have heq : ∀ w, (Op.equalIn 10000 25 (.agg ((List.replicate 32 (0 : UInt8)).map cb).toArray) (.agg #[.int .u8 0, .int .u8 0, .int .u8 0, .int .u8 0, .int .u8 0, .int .u8 0, .int .u8 0, .int .u8 0, .int .u8 0, .int .u8 0, .int .u8 0, .int .u8 0, .int .u8 0, .int .u8 0, .int .u8 0, .int .u8 0, .int .u8 0, .int .u8 0, .int .u8 0, .int .u8 0, .int .u8 0, .int .u8 0, .int .u8 0, .int .u8 0, .int .u8 0, .int .u8 0, .int .u8 0, .int .u8 0, .int .u8 0, .int .u8 0, .int .u8 0, .int .u8 0])).run Try.prog w = .ok true w := fun w => by
        have := eq_hash _ _ hnl hnl w
        rw [show (List.replicate 32 (0 : UInt8) == List.replicate 32 0) = true from by decide] at this
        exact this
      go_wp2_with fail
      refine (RNum_nil wr 1).mono ?_
      rintro e w8 ⟨rfl, rfl⟩
      go_wp2_with fail
      refine (RRaw_nil wr 1).mono ?_
      rintro e w9 ⟨rfl, rfl⟩
      go_wp2_with fail
      refine (RBytes_nil wr 1).mono ?_
      rintro e w10 ⟨rfl, rfl⟩
      go_wp2_with fail
      refine (RHash_nil wr).mono ?_
      rintro e w11 ⟨rfl, hb11⟩
      generalize List.replicate 32 (0 : UInt8) = zz at *
      go_wp2_with fail
      refine (RErr_nil w11).mono ?_
      rintro e w12 ⟨rfl, rfl⟩
      go_wp2_with fail
      refine (REnd_nil w11).mono ?_
      rintro e w13 ⟨rfl, rfl⟩
      go_wp2_with fail
      go_ret
      exact ⟨rfl, bx_trans hbr hb11⟩
end Go.Proofs.Ytnlgogladafcdaa
