
/- Trees: what gathers a path, the closure in Path; Path. -/
import Derived.Test.YtjkolpioglpigaaDoorChF
namespace Go.Proofs.YtjkolpioglpigaaDoor
open Go.RowKit
set_option linter.unusedVariables false
def ptV (go gd : Nat) : Value := .func (.func 33) #[] #[.pointer (some ⟨gd, 0, none⟩), .pointer (some ⟨go, 0, none⟩)]
abbrev tPt : Nat := 62
set_option maxRecDepth 10000 in
set_option maxHeartbeats 2000000 in
theorem Path1_any (w0 : World) (hL : Laid w0) (go gd : Nat) : ∀ (n : Nat) (w : World) (ls : List (List UInt8)) (m : Nat) (A : Option Addr) (c i : Nat) (vo : Value) (hs : List (List UInt8)), ls.length = m → m ≤ n → i < m → RdBB w0 w0.heap.size A ls → m ≤ c → m ≤ 140737488355328 → (∀ l ∈ ls, l.length ≤ 800000000) → hs.length + m ≤ 1000000 →
    Cap w w0.heap.size go gd tPt (ptV go gd) vo hs → Below w0.heap.size w0 w →
    Calls Tryd.prog 33 #[.slice A m c, .int .i64 (i : Int), .pointer (some ⟨gd, 0, none⟩), .pointer (some ⟨go, 0, none⟩)] w (CapPost w0 go gd tPt (ptV go gd) (hs ++ pth ls i)) := by
  intro n
  induction n with
  | zero =>
    intro w ls m A c i vo hs hm hn h1
    omega
  | succ n ih =>
    intro w ls m A c i vo hs hm hn h2 hr hc hc2 hlen hhs hcap hb
    have HL := hid hL
    have HC := hid hcap
    obtain ⟨Ao, co, rfl, _, _, _⟩ := own_form hcap.own
    have c0 : w.cell? ⟨go, 0, none⟩ = some (.slice Ao hs.length co) := hcap.bo.cell 0
    have cd : w.cell? ⟨gd, 0, none⟩ = some (ptV go gd) := hcap.bd.cell 0
    have hgo := hcap.bo.lt
    have hgd := hcap.bd.lt
    clear hcap hL
    rcases Nat.lt_or_ge 1 m with hlt | hge
    · have h2' : 2 ≤ ls.length := by omega
      have hs1 := split_pos h2'
      have hs2 := split_lt h2'
      have hu := u64_len m (by omega)
      have hbs := hb.size
      obtain ⟨b, off, A1, c1, rfl, hbB, q1, q2, q3⟩ := hr.at_ (k := 0) (by omega)
      clear q1 q2 q3
      have hrt := hr.takeL (splitN ls.length)
      have hrd := hr.dropL (splitN ls.length)
      have hlt' : (ls.take (splitN ls.length)).length = splitN ls.length := len_take_split
      have hld : (ls.drop (splitN ls.length)).length = ls.length - splitN ls.length := by rw [List.length_drop]
      have hmt : ∀ l ∈ ls.take (splitN ls.length), l.length ≤ 800000000 := fun l hl => hlen l (List.mem_of_mem_take hl)
      have hmd : ∀ l ∈ ls.drop (splitN ls.length), l.length ≤ 800000000 := fun l hl => hlen l (List.mem_of_mem_drop hl)
      rw [hm] at hs1 hs2 hrt hrd hlt' hld hmt hmd
      by_cases hle : i < splitN m
      · have hp := pth_left (ls := ls) (i := i) h2' (by rw [hm]; exact hle)
        rw [hm] at hp
        rw [hp]
        clear hp
        have hpl := pth_le (splitN m) (ls.take (splitN m)) i (by rw [List.length_take]; omega) hs1
        have HN : Hid (∀ w' : World, _) := hid fun w' => Split_any w' m (by omega)
        generalize hk : splitN m = k at *
        have HT := hid hlt'
        have HD := hid hld
        have HRT := hid hrt
        have HRD := hid hrd
        have HMT := hid hmt
        have HMD := hid hmd
        have HI := hid ih
        have hl := treeR_len (ls.drop k)
        generalize ls.take k = l1 at *
        generalize ls.drop k = l2 at *
        clear hlt' hld hrt hrd hmt hmd ih hr hlen hm hk
        have hck : ¬ c = k := by omega
        have hkc : k ≤ c := by omega
        have hkm : k ≤ m := by omega
        have hik : IntKind.i64.wrap (k : Int) = (k : Int) := wr_i64 _ (by omega) (by omega)
        obtain ⟨h, hh⟩ : ∃ h, h = treeR l2 := ⟨_, rfl⟩
        obtain ⟨hs2, hhs2⟩ : ∃ hs2, hs2 = hs ++ pth l1 i := ⟨_, rfl⟩
        have hl2n : hs2.length + 1 ≤ 1000000 := by rw [hhs2, List.length_append]; omega
        rw [← hh] at hl
        rw [← List.append_assoc, ← hh, ← hhs2]
        have HH := hid hh
        have HH2 := hid hhs2
        clear hh hhs2
        go_enter Tryd.func33, Tryd.ntmps33
        go_wp2_with fail
        refine (HN.out w).mono ?_
        rintro e w3 ⟨rfl, rfl⟩
        go_wp2_with fail
        refine wp_flowQ (by kernel_rfl) [0, 0, 0, 6, 0, 31] 5 [false, false, false, false, false, false, false, false, false, false, false, false, false, false, false, false, false, false, true, true, true, true, true, true] (by kernel_rfl) (by decide) (by kernel_rfl) [FP.eq (ptV go gd), FP.eq (.slice (some ⟨b, off, none⟩) m c), FP.eq (.int .i64 (k : Int)), FP.eq (.slice (some ⟨b, off, none⟩) k c), FP.eq (.int .i64 (i : Int))] (fun v w2 => CapPost w0 go gd tPt (ptV go gd) hs2 (.returned v) w2) ?_ (q_of rfl ⟨rfl, ?_⟩) ?_
        · refine allFrom_cons (stepQ_yes (by kernel_rfl) ?_) ?_
          · intro a_ w_ hk_
            have h2 : a_.eval (.tmp 2) = .pointer (some ⟨gd, 0, none⟩) := hk_.old 2 (by kernel_rfl)
            have hx_ := hk_.ext
            clear hk_
            refine flow_plain rfl ?_
            unfold gives
            have hc_ : ∀ v, a_.eval (.const v) = v := fun _ => rfl
            have hn_ : ∀ f, a_.eval (.func f) = .func (.func f) #[] #[] := fun _ => rfl
            have hcell := (hx_.cell (p := ⟨gd, 0, none⟩) hgd).trans cd
            generalize a_.eval = ρ_ at *
            go_simp
            exact ⟨Below.refl _ _, rfl⟩
          refine allFrom_cons (stepQ_yes (by kernel_rfl) ?_) ?_
          · intro a_ w_ hk_
            have h0 : a_.eval (.tmp 0) = .slice (some ⟨b, off, none⟩) m c := hk_.old 0 (by kernel_rfl)
            have hx_ := hk_.ext
            clear hk_
            refine flow_plain rfl ?_
            exact gives_move rfl ⟨Below.refl _ _, h0⟩
          refine allFrom_cons (stepQ_yes (by kernel_rfl) ?_) ?_
          · intro a_ w_ hk_
            have h6 : a_.eval (.tmp 6) = .int .i64 (k : Int) := hk_.old 6 (by kernel_rfl)
            have hx_ := hk_.ext
            clear hk_
            refine flow_plain rfl ?_
            exact gives_move rfl ⟨Below.refl _ _, h6⟩
          refine allFrom_cons (stepQ_yes (by kernel_rfl) ?_) ?_
          · intro a_ w_ hk_
            have h19 : a_.eval (.tmp 19) = (.slice (some ⟨b, off, none⟩) m c) := hk_.got 1 19 _ (by kernel_rfl) rfl rfl
            have h20 : a_.eval (.tmp 20) = (.int .i64 (k : Int)) := hk_.got 2 20 _ (by kernel_rfl) rfl rfl
            have hx_ := hk_.ext
            clear hk_
            refine flow_plain rfl ?_
            unfold gives
            have hc_ : ∀ v, a_.eval (.const v) = v := fun _ => rfl
            have hn_ : ∀ f, a_.eval (.func f) = .func (.func f) #[] #[] := fun _ => rfl
            generalize a_.eval = ρ_ at *
            go_simp
            exact ⟨Below.refl _ _, rfl⟩
          refine allFrom_cons (stepQ_yes (by kernel_rfl) ?_) ?_
          · intro a_ w_ hk_
            have h1 : a_.eval (.tmp 1) = .int .i64 (i : Int) := hk_.old 1 (by kernel_rfl)
            have hx_ := hk_.ext
            clear hk_
            refine flow_plain rfl ?_
            exact gives_move rfl ⟨Below.refl _ _, h1⟩
          exact allFrom_nil
        · intro a_ w_ hk_
          have h18 : a_.eval (.tmp 18) = (ptV go gd) := hk_.got 0 18 _ (by kernel_rfl) rfl rfl
          have h21 : a_.eval (.tmp 21) = (.slice (some ⟨b, off, none⟩) k c) := hk_.got 3 21 _ (by kernel_rfl) rfl rfl
          have h22 : a_.eval (.tmp 22) = (.int .i64 (i : Int)) := hk_.got 4 22 _ (by kernel_rfl) rfl rfl
          have hx_ := hk_.ext
          clear hk_
          unfold gives
          have hc_ : ∀ v, a_.eval (.const v) = v := fun _ => rfl
          have hn_ : ∀ f, a_.eval (.func f) = .func (.func f) #[] #[] := fun _ => rfl
          unfold ptV at *
          generalize a_.eval = ρ_ at *
          go_simp
          exact (HI.out w_ l1 k (some ⟨b, off, none⟩) c i (.slice Ao hs.length co) hs HT.out (by omega) hle HRT.out hkc (by omega) HMT.out (by omega) (HC.out.below hx_) (bx_low hb hx_ hbs)).mono fun e w' hh => ⟨_, hh.1, by rw [HH2.out]; exact ⟨rfl, hh.2⟩⟩
        intro f_ w_ hf_ ht_
        have h18 : f_ 18 = (ptV go gd) := (hf_ 0 18 _ (by decide) rfl rfl).elim fun _ h => h
        have h19 : f_ 19 = (.slice (some ⟨b, off, none⟩) m c) := (hf_ 1 19 _ (by decide) rfl rfl).elim fun _ h => h
        have h20 : f_ 20 = (.int .i64 (k : Int)) := (hf_ 2 20 _ (by decide) rfl rfl).elim fun _ h => h
        have h21 : f_ 21 = (.slice (some ⟨b, off, none⟩) k c) := (hf_ 3 21 _ (by decide) rfl rfl).elim fun _ h => h
        have h22 : f_ 22 = (.int .i64 (i : Int)) := (hf_ 4 22 _ (by decide) rfl rfl).elim fun _ h => h
        have ht := ht_ 23 _ rfl rfl
        clear ht_
        simp only [mix, List.drop_succ_cons, List.drop_zero, h18, h19, h20, h21, h22]
        clear h18 h19 h20 h21 h22
        clear hf_
        rename World => w4
        obtain ⟨_, vo4, hcap4, hb4⟩ := ht
        clear c0 cd hgo hgd HC hb
        have HC := hid hcap4
        obtain ⟨A4, c4, rfl, _, _, _⟩ := own_form hcap4.own
        have c0 : w4.cell? ⟨go, 0, none⟩ = some (.slice A4 hs2.length c4) := hcap4.bo.cell 0
        have hgo := hcap4.bo.lt
        have hbs4 := hb4.size
        clear hcap4
        have h63 : hs2.length + 1 ≤ maxLen := by unfold maxLen; omega
        have hby : (hs2.length + 1) * 32 ≤ 140737488355328 := by omega
        clear HI HH2
        go_wp2_with fail
        refine wp_flowQ (by kernel_rfl) [0, 0, 0, 6, 14, 30, 63, 127] 6 [false, false, false, false, false, false, false, false, false, false, false, false, false, false, false, false, false, false, false, false, false, false, false, false, true, true, true, true, true, true, true] (by kernel_rfl) (by decide) (by kernel_rfl) [FP.eq (.slice A4 hs2.length c4), FP.eq (.slice (some ⟨b, off, none⟩) m c), FP.eq (.int .i64 (k : Int)), FP.eq (.slice (some ⟨b, off + k, none⟩) (m - k) (c - k)), FP.eq (.agg (h.map cb).toArray), FP.sl 1 (h.map cb)] (fun v w2 => ∃ w1 A' c', v = .slice A' (hs2.length + 1) c' ∧ Below w4.heap.size w4 w1 ∧ w1.grownBy w2 (Value.slice A4 hs2.length c4).ownBlock ∧ w2.ownsRow w0.heap.size 37 32 (.slice A' (hs2.length + 1) c') (hs2.length + 1) (hs2.flatten.map cb ++ h.map cb)) ?_ (q_of rfl ⟨rfl, ?_⟩) ?_
        · refine allFrom_cons (stepQ_yes (by kernel_rfl) ?_) ?_
          · intro a_ w_ hk_
            have h3 : a_.eval (.tmp 3) = .pointer (some ⟨go, 0, none⟩) := hk_.old 3 (by kernel_rfl)
            have hx_ := hk_.ext
            clear hk_
            refine flow_plain rfl ?_
            unfold gives
            have hc_ : ∀ v, a_.eval (.const v) = v := fun _ => rfl
            have hn_ : ∀ f, a_.eval (.func f) = .func (.func f) #[] #[] := fun _ => rfl
            have hcell := (hx_.cell (p := ⟨go, 0, none⟩) hgo).trans c0
            generalize a_.eval = ρ_ at *
            go_simp
            exact ⟨Below.refl _ _, rfl⟩
          refine allFrom_cons (stepQ_yes (by kernel_rfl) ?_) ?_
          · intro a_ w_ hk_
            have h0 : a_.eval (.tmp 0) = .slice (some ⟨b, off, none⟩) m c := hk_.old 0 (by kernel_rfl)
            have hx_ := hk_.ext
            clear hk_
            refine flow_plain rfl ?_
            exact gives_move rfl ⟨Below.refl _ _, h0⟩
          refine allFrom_cons (stepQ_yes (by kernel_rfl) ?_) ?_
          · intro a_ w_ hk_
            have h6 : a_.eval (.tmp 6) = .int .i64 (k : Int) := hk_.old 6 (by kernel_rfl)
            have hx_ := hk_.ext
            clear hk_
            refine flow_plain rfl ?_
            exact gives_move rfl ⟨Below.refl _ _, h6⟩
          refine allFrom_cons (stepQ_yes (by kernel_rfl) ?_) ?_
          · intro a_ w_ hk_
            have h25 : a_.eval (.tmp 25) = (.slice (some ⟨b, off, none⟩) m c) := hk_.got 1 25 _ (by kernel_rfl) rfl rfl
            have h26 : a_.eval (.tmp 26) = (.int .i64 (k : Int)) := hk_.got 2 26 _ (by kernel_rfl) rfl rfl
            have hx_ := hk_.ext
            clear hk_
            refine flow_plain rfl ?_
            unfold gives
            have hc_ : ∀ v, a_.eval (.const v) = v := fun _ => rfl
            have hn_ : ∀ f, a_.eval (.func f) = .func (.func f) #[] #[] := fun _ => rfl
            generalize a_.eval = ρ_ at *
            go_simp
            exact ⟨Below.refl _ _, rfl⟩
          refine allFrom_cons (stepQ_yes (by kernel_rfl) ?_) ?_
          · intro a_ w_ hk_
            have h27 : a_.eval (.tmp 27) = (.slice (some ⟨b, off + k, none⟩) (m - k) (c - k)) := hk_.got 3 27 _ (by kernel_rfl) rfl rfl
            have hx_ := hk_.ext
            clear hk_
            refine flow_plain rfl ?_
            unfold gives
            have hc_ : ∀ v, a_.eval (.const v) = v := fun _ => rfl
            have hn_ : ∀ f, a_.eval (.func f) = .func (.func f) #[] #[] := fun _ => rfl
            generalize a_.eval = ρ_ at *
            go_simp
            exact (Root_any (m - k) w_ l2 (m - k) (some ⟨b, off + k, none⟩) (c - k) w0.heap.size HD.out (Nat.le_refl _) (HL.out.below (bx_low hb4 hx_ hbs4)) (HRD.out.below (bx_low hb4 hx_ hbs4)) (Nat.le_trans hbs4 hx_.size) (by omega) (by omega) HMD.out).mono fun e w' hh => ⟨_, hh.1, hh.2, by rw [HH.out]; rfl⟩
          refine allFrom_cons (stepQ_yes (by kernel_rfl) ?_) ?_
          · intro a_ w_ hk_
            have h28 : a_.eval (.tmp 28) = (.agg (h.map cb).toArray) := hk_.got 4 28 _ (by kernel_rfl) rfl rfl
            have hx_ := hk_.ext
            clear hk_
            refine flow_plain rfl ?_
            exact gives_slice1 _ _ rfl _ h28 elHs (cells_cb hl) (by decide) (slice_hash hl)
          exact allFrom_nil
        · intro a_ w_ hk_
          have h24 : a_.eval (.tmp 24) = (.slice A4 hs2.length c4) := hk_.got 0 24 _ (by kernel_rfl) rfl rfl
          have h29 : (FP.sl 1 (h.map cb)).p (a_.eval (.tmp 29)) w_ := hk_.got 5 29 _ (by kernel_rfl) rfl rfl
          have hx_ := hk_.ext
          clear hk_
          obtain ⟨A29, c29, h29, r29⟩ := h29
          have hw := Nat.le_trans hbs4 hx_.size
          refine gives_appK _ _ _ rfl (.slice A4 hs2.length c4) h24 A29 1 c29 h29 elHs (own_keep HC.out.own hx_) r29 (len_cb hl) (one_cb _) h63 hby hw fun v' w' hown2 hg2 _ => ?_
          obtain ⟨A', c', rfl, _⟩ := own_form hown2
          exact ⟨w_, A', c', rfl, hx_, hg2, hown2⟩
        intro f_ w_ hf_ ht_
        have h24 : f_ 24 = (.slice A4 hs2.length c4) := (hf_ 0 24 _ (by decide) rfl rfl).elim fun _ h => h
        have h25 : f_ 25 = (.slice (some ⟨b, off, none⟩) m c) := (hf_ 1 25 _ (by decide) rfl rfl).elim fun _ h => h
        have h26 : f_ 26 = (.int .i64 (k : Int)) := (hf_ 2 26 _ (by decide) rfl rfl).elim fun _ h => h
        have h27 : f_ 27 = (.slice (some ⟨b, off + k, none⟩) (m - k) (c - k)) := (hf_ 3 27 _ (by decide) rfl rfl).elim fun _ h => h
        have h28 : f_ 28 = (.agg (h.map cb).toArray) := (hf_ 4 28 _ (by decide) rfl rfl).elim fun _ h => h
        have ht := ht_ 30 _ rfl rfl
        clear ht_
        simp only [mix, List.drop_succ_cons, List.drop_zero, h24, h25, h26, h27, h28]
        clear h24 h25 h26 h27 h28
        clear hf_
        obtain ⟨w1, A', c', h19, hx1, hg2, hown2⟩ := ht
        rw [h19]
        have hcw := HC.out.below hx1
        have hbk : Blk w_ go tHs #[.slice A4 hs2.length c4] := (hg2.block go hcw.bo.lt (fun e => own_ne hcw.own hcw.bo (fun cur hx => by cases hx) e.symm)).trans hcw.bo
        have c02 := hbk.cell 0
        have f02 := hbk.frozen 0
        have hput := setCell_put hbk (i := 0) (.slice A' (hs2.length + 1) c')
        obtain ⟨k1, k2⟩ := hcw.app hg2 hown2 (by decide) (by decide) hput
        have HF := hid k1
        have HB := hid ((hb4.trans (hx1.mono hbs4)).trans k2)
        clear k1 k2 hput hown2 hg2 hcw hbk h19 hx1 c0
        go_wp2
        refine bodyPost_ret (results_none rfl _ _ _) rfl ?_
        exact ⟨rfl, _, HF.out, HB.out⟩
      · have hp := pth_right (ls := ls) (i := i) h2' (by rw [hm]; exact hle)
        rw [hm] at hp
        rw [hp]
        clear hp
        have hpl := pth_le (m - splitN m) (ls.drop (splitN m)) (i - splitN m) (by rw [List.length_drop]; omega) (by omega)
        have HN : Hid (∀ w' : World, _) := hid fun w' => Split_any w' m (by omega)
        generalize hk : splitN m = k at *
        have HT := hid hlt'
        have HD := hid hld
        have HRT := hid hrt
        have HRD := hid hrd
        have HMT := hid hmt
        have HMD := hid hmd
        have HI := hid ih
        have hl := treeR_len (ls.take k)
        generalize ls.take k = l1 at *
        generalize ls.drop k = l2 at *
        clear hlt' hld hrt hrd hmt hmd ih hr hlen hm hk
        have hck : ¬ c = k := by omega
        have hkc : k ≤ c := by omega
        have hkm : k ≤ m := by omega
        have hik : IntKind.i64.wrap (k : Int) = (k : Int) := wr_i64 _ (by omega) (by omega)
        obtain ⟨h, hh⟩ : ∃ h, h = treeR l1 := ⟨_, rfl⟩
        obtain ⟨hs2, hhs2⟩ : ∃ hs2, hs2 = hs ++ pth l2 (i - k) := ⟨_, rfl⟩
        have hl2n : hs2.length + 1 ≤ 1000000 := by rw [hhs2, List.length_append]; omega
        rw [← hh] at hl
        rw [← List.append_assoc, ← hh, ← hhs2]
        have HH := hid hh
        have HH2 := hid hhs2
        clear hh hhs2
        go_enter Tryd.func33, Tryd.ntmps33
        go_wp2_with fail
        refine (HN.out w).mono ?_
        rintro e w3 ⟨rfl, rfl⟩
        go_wp2_with fail
        refine wp_flowQ (by kernel_rfl) [0, 0, 0, 6, 0, 0, 48, 127] 7 [false, false, false, false, false, false, false, false, false, false, false, false, false, false, false, false, false, false, false, false, false, false, false, false, false, false, false, false, false, false, false, true, true, true, true, true, true, true, true] (by kernel_rfl) (by decide) (by kernel_rfl) [FP.eq (ptV go gd), FP.eq (.slice (some ⟨b, off, none⟩) m c), FP.eq (.int .i64 (k : Int)), FP.eq (.slice (some ⟨b, off + k, none⟩) (m - k) (c - k)), FP.eq (.int .i64 (i : Int)), FP.eq (.int .i64 (k : Int)), FP.eq (.int .i64 ((i - k : Nat) : Int))] (fun v w2 => CapPost w0 go gd tPt (ptV go gd) hs2 (.returned v) w2) ?_ (q_of rfl ⟨rfl, ?_⟩) ?_
        · refine allFrom_cons (stepQ_yes (by kernel_rfl) ?_) ?_
          · intro a_ w_ hk_
            have h2 : a_.eval (.tmp 2) = .pointer (some ⟨gd, 0, none⟩) := hk_.old 2 (by kernel_rfl)
            have hx_ := hk_.ext
            clear hk_
            refine flow_plain rfl ?_
            unfold gives
            have hc_ : ∀ v, a_.eval (.const v) = v := fun _ => rfl
            have hn_ : ∀ f, a_.eval (.func f) = .func (.func f) #[] #[] := fun _ => rfl
            have hcell := (hx_.cell (p := ⟨gd, 0, none⟩) hgd).trans cd
            generalize a_.eval = ρ_ at *
            go_simp
            exact ⟨Below.refl _ _, rfl⟩
          refine allFrom_cons (stepQ_yes (by kernel_rfl) ?_) ?_
          · intro a_ w_ hk_
            have h0 : a_.eval (.tmp 0) = .slice (some ⟨b, off, none⟩) m c := hk_.old 0 (by kernel_rfl)
            have hx_ := hk_.ext
            clear hk_
            refine flow_plain rfl ?_
            exact gives_move rfl ⟨Below.refl _ _, h0⟩
          refine allFrom_cons (stepQ_yes (by kernel_rfl) ?_) ?_
          · intro a_ w_ hk_
            have h6 : a_.eval (.tmp 6) = .int .i64 (k : Int) := hk_.old 6 (by kernel_rfl)
            have hx_ := hk_.ext
            clear hk_
            refine flow_plain rfl ?_
            exact gives_move rfl ⟨Below.refl _ _, h6⟩
          refine allFrom_cons (stepQ_yes (by kernel_rfl) ?_) ?_
          · intro a_ w_ hk_
            have h32 : a_.eval (.tmp 32) = (.slice (some ⟨b, off, none⟩) m c) := hk_.got 1 32 _ (by kernel_rfl) rfl rfl
            have h33 : a_.eval (.tmp 33) = (.int .i64 (k : Int)) := hk_.got 2 33 _ (by kernel_rfl) rfl rfl
            have hx_ := hk_.ext
            clear hk_
            refine flow_plain rfl ?_
            unfold gives
            have hc_ : ∀ v, a_.eval (.const v) = v := fun _ => rfl
            have hn_ : ∀ f, a_.eval (.func f) = .func (.func f) #[] #[] := fun _ => rfl
            generalize a_.eval = ρ_ at *
            go_simp
            exact ⟨Below.refl _ _, rfl⟩
          refine allFrom_cons (stepQ_yes (by kernel_rfl) ?_) ?_
          · intro a_ w_ hk_
            have h1 : a_.eval (.tmp 1) = .int .i64 (i : Int) := hk_.old 1 (by kernel_rfl)
            have hx_ := hk_.ext
            clear hk_
            refine flow_plain rfl ?_
            exact gives_move rfl ⟨Below.refl _ _, h1⟩
          refine allFrom_cons (stepQ_yes (by kernel_rfl) ?_) ?_
          · intro a_ w_ hk_
            have h6 : a_.eval (.tmp 6) = .int .i64 (k : Int) := hk_.old 6 (by kernel_rfl)
            have hx_ := hk_.ext
            clear hk_
            refine flow_plain rfl ?_
            exact gives_move rfl ⟨Below.refl _ _, h6⟩
          refine allFrom_cons (stepQ_yes (by kernel_rfl) ?_) ?_
          · intro a_ w_ hk_
            have h35 : a_.eval (.tmp 35) = (.int .i64 (i : Int)) := hk_.got 4 35 _ (by kernel_rfl) rfl rfl
            have h36 : a_.eval (.tmp 36) = (.int .i64 (k : Int)) := hk_.got 5 36 _ (by kernel_rfl) rfl rfl
            have hx_ := hk_.ext
            clear hk_
            refine flow_plain rfl ?_
            unfold gives
            have hc_ : ∀ v, a_.eval (.const v) = v := fun _ => rfl
            have hn_ : ∀ f, a_.eval (.func f) = .func (.func f) #[] #[] := fun _ => rfl
            generalize a_.eval = ρ_ at *
            go_simp
            exact ⟨Below.refl _ _, congrArg (Value.int _) ((wr_i64 _ (by omega) (by omega)).trans (by omega))⟩
          exact allFrom_nil
        · intro a_ w_ hk_
          have h31 : a_.eval (.tmp 31) = (ptV go gd) := hk_.got 0 31 _ (by kernel_rfl) rfl rfl
          have h34 : a_.eval (.tmp 34) = (.slice (some ⟨b, off + k, none⟩) (m - k) (c - k)) := hk_.got 3 34 _ (by kernel_rfl) rfl rfl
          have h37 : a_.eval (.tmp 37) = (.int .i64 ((i - k : Nat) : Int)) := hk_.got 6 37 _ (by kernel_rfl) rfl rfl
          have hx_ := hk_.ext
          clear hk_
          unfold gives
          have hc_ : ∀ v, a_.eval (.const v) = v := fun _ => rfl
          have hn_ : ∀ f, a_.eval (.func f) = .func (.func f) #[] #[] := fun _ => rfl
          unfold ptV at *
          generalize a_.eval = ρ_ at *
          go_simp
          exact (HI.out w_ l2 (m - k) (some ⟨b, off + k, none⟩) (c - k) (i - k) (.slice Ao hs.length co) hs HD.out (by omega) (by omega) HRD.out (by omega) (by omega) HMD.out (by omega) (HC.out.below hx_) (bx_low hb hx_ hbs)).mono fun e w' hh => ⟨_, hh.1, by rw [HH2.out]; exact ⟨rfl, hh.2⟩⟩
        intro f_ w_ hf_ ht_
        have h31 : f_ 31 = (ptV go gd) := (hf_ 0 31 _ (by decide) rfl rfl).elim fun _ h => h
        have h32 : f_ 32 = (.slice (some ⟨b, off, none⟩) m c) := (hf_ 1 32 _ (by decide) rfl rfl).elim fun _ h => h
        have h33 : f_ 33 = (.int .i64 (k : Int)) := (hf_ 2 33 _ (by decide) rfl rfl).elim fun _ h => h
        have h34 : f_ 34 = (.slice (some ⟨b, off + k, none⟩) (m - k) (c - k)) := (hf_ 3 34 _ (by decide) rfl rfl).elim fun _ h => h
        have h35 : f_ 35 = (.int .i64 (i : Int)) := (hf_ 4 35 _ (by decide) rfl rfl).elim fun _ h => h
        have h36 : f_ 36 = (.int .i64 (k : Int)) := (hf_ 5 36 _ (by decide) rfl rfl).elim fun _ h => h
        have h37 : f_ 37 = (.int .i64 ((i - k : Nat) : Int)) := (hf_ 6 37 _ (by decide) rfl rfl).elim fun _ h => h
        have ht := ht_ 38 _ rfl rfl
        clear ht_
        simp only [mix, List.drop_succ_cons, List.drop_zero, h31, h32, h33, h34, h35, h36, h37]
        clear h31 h32 h33 h34 h35 h36 h37
        clear hf_
        rename World => w4
        obtain ⟨_, vo4, hcap4, hb4⟩ := ht
        clear c0 cd hgo hgd HC hb
        have HC := hid hcap4
        obtain ⟨A4, c4, rfl, _, _, _⟩ := own_form hcap4.own
        have c0 : w4.cell? ⟨go, 0, none⟩ = some (.slice A4 hs2.length c4) := hcap4.bo.cell 0
        have hgo := hcap4.bo.lt
        have hbs4 := hb4.size
        clear hcap4
        have h63 : hs2.length + 1 ≤ maxLen := by unfold maxLen; omega
        have hby : (hs2.length + 1) * 32 ≤ 140737488355328 := by omega
        clear HI HH2
        go_wp2_with fail
        refine wp_flowQ (by kernel_rfl) [0, 0, 0, 6, 14, 30, 63, 127] 6 [false, false, false, false, false, false, false, false, false, false, false, false, false, false, false, false, false, false, false, false, false, false, false, false, false, false, false, false, false, false, false, false, false, false, false, false, false, false, false, true, true, true, true, true, true, true] (by kernel_rfl) (by decide) (by kernel_rfl) [FP.eq (.slice A4 hs2.length c4), FP.eq (.slice (some ⟨b, off, none⟩) m c), FP.eq (.int .i64 (k : Int)), FP.eq (.slice (some ⟨b, off, none⟩) k c), FP.eq (.agg (h.map cb).toArray), FP.sl 1 (h.map cb)] (fun v w2 => ∃ w1 A' c', v = .slice A' (hs2.length + 1) c' ∧ Below w4.heap.size w4 w1 ∧ w1.grownBy w2 (Value.slice A4 hs2.length c4).ownBlock ∧ w2.ownsRow w0.heap.size 37 32 (.slice A' (hs2.length + 1) c') (hs2.length + 1) (hs2.flatten.map cb ++ h.map cb)) ?_ (q_of rfl ⟨rfl, ?_⟩) ?_
        · refine allFrom_cons (stepQ_yes (by kernel_rfl) ?_) ?_
          · intro a_ w_ hk_
            have h3 : a_.eval (.tmp 3) = .pointer (some ⟨go, 0, none⟩) := hk_.old 3 (by kernel_rfl)
            have hx_ := hk_.ext
            clear hk_
            refine flow_plain rfl ?_
            unfold gives
            have hc_ : ∀ v, a_.eval (.const v) = v := fun _ => rfl
            have hn_ : ∀ f, a_.eval (.func f) = .func (.func f) #[] #[] := fun _ => rfl
            have hcell := (hx_.cell (p := ⟨go, 0, none⟩) hgo).trans c0
            generalize a_.eval = ρ_ at *
            go_simp
            exact ⟨Below.refl _ _, rfl⟩
          refine allFrom_cons (stepQ_yes (by kernel_rfl) ?_) ?_
          · intro a_ w_ hk_
            have h0 : a_.eval (.tmp 0) = .slice (some ⟨b, off, none⟩) m c := hk_.old 0 (by kernel_rfl)
            have hx_ := hk_.ext
            clear hk_
            refine flow_plain rfl ?_
            exact gives_move rfl ⟨Below.refl _ _, h0⟩
          refine allFrom_cons (stepQ_yes (by kernel_rfl) ?_) ?_
          · intro a_ w_ hk_
            have h6 : a_.eval (.tmp 6) = .int .i64 (k : Int) := hk_.old 6 (by kernel_rfl)
            have hx_ := hk_.ext
            clear hk_
            refine flow_plain rfl ?_
            exact gives_move rfl ⟨Below.refl _ _, h6⟩
          refine allFrom_cons (stepQ_yes (by kernel_rfl) ?_) ?_
          · intro a_ w_ hk_
            have h40 : a_.eval (.tmp 40) = (.slice (some ⟨b, off, none⟩) m c) := hk_.got 1 40 _ (by kernel_rfl) rfl rfl
            have h41 : a_.eval (.tmp 41) = (.int .i64 (k : Int)) := hk_.got 2 41 _ (by kernel_rfl) rfl rfl
            have hx_ := hk_.ext
            clear hk_
            refine flow_plain rfl ?_
            unfold gives
            have hc_ : ∀ v, a_.eval (.const v) = v := fun _ => rfl
            have hn_ : ∀ f, a_.eval (.func f) = .func (.func f) #[] #[] := fun _ => rfl
            generalize a_.eval = ρ_ at *
            go_simp
            exact ⟨Below.refl _ _, rfl⟩
          refine allFrom_cons (stepQ_yes (by kernel_rfl) ?_) ?_
          · intro a_ w_ hk_
            have h42 : a_.eval (.tmp 42) = (.slice (some ⟨b, off, none⟩) k c) := hk_.got 3 42 _ (by kernel_rfl) rfl rfl
            have hx_ := hk_.ext
            clear hk_
            refine flow_plain rfl ?_
            unfold gives
            have hc_ : ∀ v, a_.eval (.const v) = v := fun _ => rfl
            have hn_ : ∀ f, a_.eval (.func f) = .func (.func f) #[] #[] := fun _ => rfl
            generalize a_.eval = ρ_ at *
            go_simp
            exact (Root_any k w_ l1 k (some ⟨b, off, none⟩) c w0.heap.size HT.out (Nat.le_refl _) (HL.out.below (bx_low hb4 hx_ hbs4)) (HRT.out.below (bx_low hb4 hx_ hbs4)) (Nat.le_trans hbs4 hx_.size) hkc (by omega) HMT.out).mono fun e w' hh => ⟨_, hh.1, hh.2, by rw [HH.out]; rfl⟩
          refine allFrom_cons (stepQ_yes (by kernel_rfl) ?_) ?_
          · intro a_ w_ hk_
            have h43 : a_.eval (.tmp 43) = (.agg (h.map cb).toArray) := hk_.got 4 43 _ (by kernel_rfl) rfl rfl
            have hx_ := hk_.ext
            clear hk_
            refine flow_plain rfl ?_
            exact gives_slice1 _ _ rfl _ h43 elHs (cells_cb hl) (by decide) (slice_hash hl)
          exact allFrom_nil
        · intro a_ w_ hk_
          have h39 : a_.eval (.tmp 39) = (.slice A4 hs2.length c4) := hk_.got 0 39 _ (by kernel_rfl) rfl rfl
          have h44 : (FP.sl 1 (h.map cb)).p (a_.eval (.tmp 44)) w_ := hk_.got 5 44 _ (by kernel_rfl) rfl rfl
          have hx_ := hk_.ext
          clear hk_
          obtain ⟨A44, c44, h44, r44⟩ := h44
          have hw := Nat.le_trans hbs4 hx_.size
          refine gives_appK _ _ _ rfl (.slice A4 hs2.length c4) h39 A44 1 c44 h44 elHs (own_keep HC.out.own hx_) r44 (len_cb hl) (one_cb _) h63 hby hw fun v' w' hown2 hg2 _ => ?_
          obtain ⟨A', c', rfl, _⟩ := own_form hown2
          exact ⟨w_, A', c', rfl, hx_, hg2, hown2⟩
        intro f_ w_ hf_ ht_
        have h39 : f_ 39 = (.slice A4 hs2.length c4) := (hf_ 0 39 _ (by decide) rfl rfl).elim fun _ h => h
        have h40 : f_ 40 = (.slice (some ⟨b, off, none⟩) m c) := (hf_ 1 40 _ (by decide) rfl rfl).elim fun _ h => h
        have h41 : f_ 41 = (.int .i64 (k : Int)) := (hf_ 2 41 _ (by decide) rfl rfl).elim fun _ h => h
        have h42 : f_ 42 = (.slice (some ⟨b, off, none⟩) k c) := (hf_ 3 42 _ (by decide) rfl rfl).elim fun _ h => h
        have h43 : f_ 43 = (.agg (h.map cb).toArray) := (hf_ 4 43 _ (by decide) rfl rfl).elim fun _ h => h
        have ht := ht_ 45 _ rfl rfl
        clear ht_
        simp only [mix, List.drop_succ_cons, List.drop_zero, h39, h40, h41, h42, h43]
        clear h39 h40 h41 h42 h43
        clear hf_
        obtain ⟨w1, A', c', h19, hx1, hg2, hown2⟩ := ht
        rw [h19]
        have hcw := HC.out.below hx1
        have hbk : Blk w_ go tHs #[.slice A4 hs2.length c4] := (hg2.block go hcw.bo.lt (fun e => own_ne hcw.own hcw.bo (fun cur hx => by cases hx) e.symm)).trans hcw.bo
        have c02 := hbk.cell 0
        have f02 := hbk.frozen 0
        have hput := setCell_put hbk (i := 0) (.slice A' (hs2.length + 1) c')
        obtain ⟨k1, k2⟩ := hcw.app hg2 hown2 (by decide) (by decide) hput
        have HF := hid k1
        have HB := hid ((hb4.trans (hx1.mono hbs4)).trans k2)
        clear k1 k2 hput hown2 hg2 hcw hbk h19 hx1 c0
        go_wp2
        refine bodyPost_ret (results_none rfl _ _ _) rfl ?_
        exact ⟨rfl, _, HF.out, HB.out⟩
    · obtain rfl : m = 1 := by omega
      rw [pth_end (ls := ls) (i := i) (by omega), List.append_nil]
      clear hlen hr ih
      go_enter Tryd.func33, Tryd.ntmps33
      go_wp2
      refine bodyPost_ret (results_none rfl _ _ _) rfl ?_
      exact ⟨rfl, _, HC.out, hb⟩
set_option maxHeartbeats 400000 in
theorem Path_no (w : World) (A : Option Addr) (m c : Nat) (i : Int) (h : i < 0 ∨ (m : Int) ≤ i) :
    Calls Tryd.prog 22 #[.slice A m c, .int .i64 i] w fun e w' => e = .returned (.tuple #[.slice none 0 0, .int .i64 15]) ∧ w = w' := by
  by_cases h1 : i < 0
  · go_enter Tryd.func22, Tryd.ntmps22
    go_wp2
    go_ret2
    exact ⟨rfl, rfl⟩
  · have h2 : (m : Int) ≤ i := by omega
    go_enter Tryd.func22, Tryd.ntmps22
    go_wp2
    go_ret2
    exact ⟨rfl, rfl⟩
set_option maxRecDepth 10000 in
set_option maxHeartbeats 1000000 in
theorem Path_any (w : World) (hL : Laid w) (ls : List (List UInt8)) (m : Nat) (A : Option Addr) (c i : Nat) (hm : ls.length = m) (h2 : i < m) (hr : RdBB w w.heap.size A ls) (hc : m ≤ c) (hc2 : m ≤ 140737488355328) (hlen : ∀ l ∈ ls, l.length ≤ 800000000) (hml : m ≤ 1000000) :
    Calls Tryd.prog 22 #[.slice A m c, .int .i64 (i : Int)] w (PfRet w (pth ls i)) := by
  obtain ⟨w1, hw1⟩ : ∃ w1, w1 = (w.alloc (.cells #[.slice none 0 0] tHs)).alloc (.cells #[ptV w.heap.size (w.heap.size + 1)] tPt) := ⟨_, rfl⟩
  have hb1 : Below w.heap.size w w1 := by rw [hw1]; exact bx_alloc (bx_alloc (Below.refl _ _) _) _
  have hcap : Cap w1 w.heap.size w.heap.size (w.heap.size + 1) tPt (ptV w.heap.size (w.heap.size + 1)) (.slice none 0 0) [] := by
    rw [hw1]
    refine ⟨(Blk.new _ _ _).alloc _, ?_, ⟨rfl, .inl ⟨rfl, rfl⟩⟩, Nat.le_refl _, by omega, by simp; omega⟩
    have := Blk.new (w.alloc (.cells #[.slice none 0 0] tHs)) tPt #[ptV w.heap.size (w.heap.size + 1)]
    rwa [World.size_alloc] at this
  have hcall := Path1_any w hL w.heap.size (w.heap.size + 1) m w1 ls m A c i (.slice none 0 0) [] hm (Nat.le_refl _) h2 hr hc hc2 hlen (by simpa using hml) hcap hb1
  rw [List.nil_append] at hcall
  have HC := hid hcall
  generalize pth ls i = pl at *
  clear hcall hcap hb1 hlen hr hL hm
  go_enter Tryd.func22, Tryd.ntmps22
  go_wp2_with fail
  unfold ptV at *
  rw [hw1] at HC
  refine HC.out.mono ?_
  rintro e w2 ⟨rfl, vo, hcap, hb⟩
  obtain ⟨Ao, co, rfl, q1, q2, q3⟩ := own_form hcap.own
  have c0 : w2.cell? ⟨w.heap.size, 0, none⟩ = some (.slice Ao pl.length co) := hcap.bo.cell 0
  have HO := hid hcap.own
  clear hcap q1 q2 q3
  go_wp2
  go_ret2
  exact ⟨_, rfl, HO.out, hb⟩
end Go.Proofs.YtjkolpioglpigaaDoor
