
/- Chains: what gathers a proof, the closure in Proof. -/
import Derived.Test.YtjkolpioglpigaaDoorChD
namespace Go.Proofs.YtjkolpioglpigaaDoor
open Go.RowKit
set_option linter.unusedVariables false
def pfV (go gd : Nat) : Value := .func (.func 23) #[] #[.pointer (some ⟨go, 0, none⟩), .pointer (some ⟨gd, 0, none⟩)]
abbrev tPf : Nat := 51
theorem len_cb {h : List UInt8} (hl : h.length = 32) : (h.map cb).length = 1 * 32 := by rw [List.length_map, hl]
theorem cells_cb {h : List UInt8} (hl : h.length = 32) : (Value.agg (h.map cb).toArray).cells.size = 32 := by show (h.map cb).toArray.size = 32; rw [List.size_toArray, List.length_map, hl]
theorem slice_hash {w : World} {h : List UInt8} (hl : h.length = 32) : Below w.heap.size w (w.alloc (.cells (Value.agg (h.map cb).toArray).cells 37)) ∧ (FP.sl 1 (h.map cb)).p (.slice (some ⟨w.heap.size, 0, none⟩) 1 1) (w.alloc (.cells (Value.agg (h.map cb).toArray).cells 37)) :=
  ⟨bx_alloc (Below.refl _ _) _, _, _, rfl, rd_of_row (heap_new rfl) (by show (h.map cb).toArray.toList = _; rfl)⟩
/-- More hashes are gathered; all below is as it was. -/
def CapPost (w0 : World) (go gd tf : Nat) (fn : Value) (hs : List (List UInt8)) (e : Ending) (w' : World) : Prop := e = .returned (.tuple #[]) ∧ ∃ vo', Cap w' w0.heap.size go gd tf fn vo' hs ∧ Below w0.heap.size w0 w'
set_option maxRecDepth 10000 in
set_option maxHeartbeats 2000000 in
theorem Proof1_any (w0 : World) (hL : Laid w0) (go gd : Nat) : ∀ (n : Nat) (w : World) (ls : List (List UInt8)) (m : Nat) (A : Option Addr) (c i : Nat) (wh : Bool) (vo : Value) (hs : List (List UInt8)), ls.length = m → m ≤ n → 1 ≤ i → i ≤ m → RdBB w0 w0.heap.size A ls → m ≤ c → m ≤ 140737488355328 → (∀ l ∈ ls, l.length ≤ 800000000) → hs.length + m ≤ 1000000 →
    Cap w w0.heap.size go gd tPf (pfV go gd) vo hs → Below w0.heap.size w0 w →
    Calls Tryd.prog 23 #[.slice A m c, .int .i64 (i : Int), .bool wh, .pointer (some ⟨go, 0, none⟩), .pointer (some ⟨gd, 0, none⟩)] w (CapPost w0 go gd tPf (pfV go gd) (hs ++ prf ls i wh)) := by
  intro n
  induction n with
  | zero =>
    intro w ls m A c i wh vo hs hm hn h1 h2
    omega
  | succ n ih =>
    intro w ls m A c i wh vo hs hm hn h1 h2 hr hc hc2 hlen hhs hcap hb
    have HL := hid hL
    have HC := hid hcap
    obtain ⟨Ao, co, rfl, _, _, _⟩ := own_form hcap.own
    have c0 : w.cell? ⟨go, 0, none⟩ = some (.slice Ao hs.length co) := hcap.bo.cell 0
    have cd : w.cell? ⟨gd, 0, none⟩ = some (pfV go gd) := hcap.bd.cell 0
    have hgo := hcap.bo.lt
    have hgd := hcap.bd.lt
    clear hcap hL
    rcases Nat.lt_or_ge i m with hlt | hge
    ·
      have h2' : 2 ≤ ls.length := by omega
      have hs1 := split_pos h2'
      have hs2 := split_lt h2'
      have hu := u64_len m (by omega)
      have hbs := hb.size
      have hne : ls ≠ [] := by intro h0; subst h0; simp at hm; omega
      obtain ⟨b, off, A1, c1, rfl, hbB, q1, q2, q3⟩ := hr.at_ (k := 0) (by omega)
      clear q1 q2 q3
      have hrt := hr.takeL (splitN ls.length)
      have hrd := hr.dropL (splitN ls.length)
      have hlt' : (ls.take (splitN ls.length)).length = splitN ls.length := len_take_split
      have hld : (ls.drop (splitN ls.length)).length = ls.length - splitN ls.length := by rw [List.length_drop]
      have hmt : ∀ l ∈ ls.take (splitN ls.length), l.length ≤ 800000000 := fun l hl => hlen l (List.mem_of_mem_take hl)
      have hmd : ∀ l ∈ ls.drop (splitN ls.length), l.length ≤ 800000000 := fun l hl => hlen l (List.mem_of_mem_drop hl)
      clear hne
      rw [hm] at hs1 hs2 hrt hrd hlt' hld hmt hmd
      by_cases hle : i ≤ splitN m
      · have hp := prf_left (ls := ls) (m := i) wh h1 (by rw [hm]; exact hlt) (by rw [hm]; exact hle)
        rw [hm] at hp
        rw [hp]
        clear hp
        have hpl := prf_le (splitN m) (ls.take (splitN m)) i wh (by rw [List.length_take]; omega) hs1
        have HN : Hid (∀ w' : World, _) := hid fun w' => Split_any w' m (by omega)
        generalize hk : splitN m = k at *
        have HT := hid hlt'
        have HD := hid hld
        have HRT := hid hrt
        have HRD := hid hrd
        have HMT := hid hmt
        have HMD := hid hmd
        have HI := hid ih
        have hl := treeR_len (ls.drop k)
        generalize ls.take k = l1 at *
        generalize ls.drop k = l2 at *
        clear hlt' hld hrt hrd hmt hmd ih hr hlen hm hk
        have hck : ¬ c = k := by omega
        have hkc : k ≤ c := by omega
        have hkm : k ≤ m := by omega
        have hik : IntKind.i64.wrap (k : Int) = (k : Int) := wr_i64 _ (by omega) (by omega)
        obtain ⟨h, hh⟩ : ∃ h, h = treeR l2 := ⟨_, rfl⟩
        obtain ⟨hs2, hhs2⟩ : ∃ hs2, hs2 = hs ++ prf l1 i wh := ⟨_, rfl⟩
        have hl2n : hs2.length + 1 ≤ 1000000 := by rw [hhs2, List.length_append]; omega
        rw [← hh] at hl
        rw [← List.append_assoc, ← hh, ← hhs2]
        have HH := hid hh
        have HH2 := hid hhs2
        clear hh hhs2
        go_enter Tryd.func23, Tryd.ntmps23
        go_wp2_with fail
        refine (HN.out w).mono ?_
        rintro e w3 ⟨rfl, rfl⟩
        go_wp2_with fail
        refine wp_flowQ (by kernel_rfl) [0, 0, 0, 6, 0, 0, 63] 6 [false, false, false, false, false, false, false, false, false, false, false, false, false, false, false, false, false, false, false, false, false, false, false, false, false, false, false, false, true, true, true, true, true, true, true] (by kernel_rfl) (by decide) (by kernel_rfl) [FP.eq (pfV go gd), FP.eq (.slice (some ⟨b, off, none⟩) m c), FP.eq (.int .i64 (k : Int)), FP.eq (.slice (some ⟨b, off, none⟩) k c), FP.eq (.int .i64 (i : Int)), FP.eq (.bool wh)] (fun v w2 => CapPost w0 go gd tPf (pfV go gd) hs2 (.returned v) w2) ?_ (q_of rfl ⟨rfl, ?_⟩) ?_
        · refine allFrom_cons (stepQ_yes (by kernel_rfl) ?_) ?_
          · intro a_ w_ hk_
            have h4 : a_.eval (.tmp 4) = .pointer (some ⟨gd, 0, none⟩) := hk_.old 4 (by kernel_rfl)
            have hx_ := hk_.ext
            clear hk_
            refine flow_plain rfl ?_
            unfold gives
            have hc_ : ∀ v, a_.eval (.const v) = v := fun _ => rfl
            have hn_ : ∀ f, a_.eval (.func f) = .func (.func f) #[] #[] := fun _ => rfl
            have hcell := (hx_.cell (p := ⟨gd, 0, none⟩) hgd).trans cd
            generalize a_.eval = ρ_ at *
            go_simp
            exact ⟨Below.refl _ _, rfl⟩
          refine allFrom_cons (stepQ_yes (by kernel_rfl) ?_) ?_
          · intro a_ w_ hk_
            have h0 : a_.eval (.tmp 0) = .slice (some ⟨b, off, none⟩) m c := hk_.old 0 (by kernel_rfl)
            have hx_ := hk_.ext
            clear hk_
            refine flow_plain rfl ?_
            exact gives_move rfl ⟨Below.refl _ _, h0⟩
          refine allFrom_cons (stepQ_yes (by kernel_rfl) ?_) ?_
          · intro a_ w_ hk_
            have h8 : a_.eval (.tmp 8) = .int .i64 (k : Int) := hk_.old 8 (by kernel_rfl)
            have hx_ := hk_.ext
            clear hk_
            refine flow_plain rfl ?_
            exact gives_move rfl ⟨Below.refl _ _, h8⟩
          refine allFrom_cons (stepQ_yes (by kernel_rfl) ?_) ?_
          · intro a_ w_ hk_
            have h29 : a_.eval (.tmp 29) = (.slice (some ⟨b, off, none⟩) m c) := hk_.got 1 29 _ (by kernel_rfl) rfl rfl
            have h30 : a_.eval (.tmp 30) = (.int .i64 (k : Int)) := hk_.got 2 30 _ (by kernel_rfl) rfl rfl
            have hx_ := hk_.ext
            clear hk_
            refine flow_plain rfl ?_
            unfold gives
            have hc_ : ∀ v, a_.eval (.const v) = v := fun _ => rfl
            have hn_ : ∀ f, a_.eval (.func f) = .func (.func f) #[] #[] := fun _ => rfl
            generalize a_.eval = ρ_ at *
            go_simp
            exact ⟨Below.refl _ _, rfl⟩
          refine allFrom_cons (stepQ_yes (by kernel_rfl) ?_) ?_
          · intro a_ w_ hk_
            have h1 : a_.eval (.tmp 1) = .int .i64 (i : Int) := hk_.old 1 (by kernel_rfl)
            have hx_ := hk_.ext
            clear hk_
            refine flow_plain rfl ?_
            exact gives_move rfl ⟨Below.refl _ _, h1⟩
          refine allFrom_cons (stepQ_yes (by kernel_rfl) ?_) ?_
          · intro a_ w_ hk_
            have h2 : a_.eval (.tmp 2) = .bool wh := hk_.old 2 (by kernel_rfl)
            have hx_ := hk_.ext
            clear hk_
            refine flow_plain rfl ?_
            exact gives_move rfl ⟨Below.refl _ _, h2⟩
          exact allFrom_nil
        · intro a_ w_ hk_
          have h28 : a_.eval (.tmp 28) = (pfV go gd) := hk_.got 0 28 _ (by kernel_rfl) rfl rfl
          have h31 : a_.eval (.tmp 31) = (.slice (some ⟨b, off, none⟩) k c) := hk_.got 3 31 _ (by kernel_rfl) rfl rfl
          have h32 : a_.eval (.tmp 32) = (.int .i64 (i : Int)) := hk_.got 4 32 _ (by kernel_rfl) rfl rfl
          have h33 : a_.eval (.tmp 33) = (.bool wh) := hk_.got 5 33 _ (by kernel_rfl) rfl rfl
          have hx_ := hk_.ext
          clear hk_
          unfold gives
          have hc_ : ∀ v, a_.eval (.const v) = v := fun _ => rfl
          have hn_ : ∀ f, a_.eval (.func f) = .func (.func f) #[] #[] := fun _ => rfl
          unfold pfV at *
          generalize a_.eval = ρ_ at *
          go_simp
          exact (HI.out w_ l1 k (some ⟨b, off, none⟩) c i wh (.slice Ao hs.length co) hs HT.out (by omega) h1 hle HRT.out hkc (by omega) HMT.out (by omega) (HC.out.below hx_) (bx_low hb hx_ hbs)).mono fun e w' hh => ⟨_, hh.1, by rw [HH2.out]; exact ⟨rfl, hh.2⟩⟩
        intro f_ w_ hf_ ht_
        have h28 : f_ 28 = (pfV go gd) := (hf_ 0 28 _ (by decide) rfl rfl).elim fun _ h => h
        have h29 : f_ 29 = (.slice (some ⟨b, off, none⟩) m c) := (hf_ 1 29 _ (by decide) rfl rfl).elim fun _ h => h
        have h30 : f_ 30 = (.int .i64 (k : Int)) := (hf_ 2 30 _ (by decide) rfl rfl).elim fun _ h => h
        have h31 : f_ 31 = (.slice (some ⟨b, off, none⟩) k c) := (hf_ 3 31 _ (by decide) rfl rfl).elim fun _ h => h
        have h32 : f_ 32 = (.int .i64 (i : Int)) := (hf_ 4 32 _ (by decide) rfl rfl).elim fun _ h => h
        have h33 : f_ 33 = (.bool wh) := (hf_ 5 33 _ (by decide) rfl rfl).elim fun _ h => h
        have ht := ht_ 34 _ rfl rfl
        clear ht_
        simp only [mix, List.drop_succ_cons, List.drop_zero, h28, h29, h30, h31, h32, h33]
        clear h28 h29 h30 h31 h32 h33
        clear hf_
        rename World => w4
        obtain ⟨_, vo4, hcap4, hb4⟩ := ht
        clear c0 cd hgo hgd HC hb
        have HC := hid hcap4
        obtain ⟨A4, c4, rfl, _, _, _⟩ := own_form hcap4.own
        have c0 : w4.cell? ⟨go, 0, none⟩ = some (.slice A4 hs2.length c4) := hcap4.bo.cell 0
        have hgo := hcap4.bo.lt
        have hbs4 := hb4.size
        clear hcap4
        have h63 : hs2.length + 1 ≤ maxLen := by unfold maxLen; omega
        have hby : (hs2.length + 1) * 32 ≤ 140737488355328 := by omega
        clear HI HH2
        go_wp2_with fail
        refine wp_flowQ (by kernel_rfl) [0, 0, 0, 6, 14, 30, 63, 127] 6 [false, false, false, false, false, false, false, false, false, false, false, false, false, false, false, false, false, false, false, false, false, false, false, false, false, false, false, false, false, false, false, false, false, false, false, true, true, true, true, true, true, true] (by kernel_rfl) (by decide) (by kernel_rfl) [FP.eq (.slice A4 hs2.length c4), FP.eq (.slice (some ⟨b, off, none⟩) m c), FP.eq (.int .i64 (k : Int)), FP.eq (.slice (some ⟨b, off + k, none⟩) (m - k) (c - k)), FP.eq (.agg (h.map cb).toArray), FP.sl 1 (h.map cb)] (fun v w2 => ∃ w1 A' c', v = .slice A' (hs2.length + 1) c' ∧ Below w4.heap.size w4 w1 ∧ w1.grownBy w2 (Value.slice A4 hs2.length c4).ownBlock ∧ w2.ownsRow w0.heap.size 37 32 (.slice A' (hs2.length + 1) c') (hs2.length + 1) (hs2.flatten.map cb ++ h.map cb)) ?_ (q_of rfl ⟨rfl, ?_⟩) ?_
        · refine allFrom_cons (stepQ_yes (by kernel_rfl) ?_) ?_
          · intro a_ w_ hk_
            have h3 : a_.eval (.tmp 3) = .pointer (some ⟨go, 0, none⟩) := hk_.old 3 (by kernel_rfl)
            have hx_ := hk_.ext
            clear hk_
            refine flow_plain rfl ?_
            unfold gives
            have hc_ : ∀ v, a_.eval (.const v) = v := fun _ => rfl
            have hn_ : ∀ f, a_.eval (.func f) = .func (.func f) #[] #[] := fun _ => rfl
            have hcell := (hx_.cell (p := ⟨go, 0, none⟩) hgo).trans c0
            generalize a_.eval = ρ_ at *
            go_simp
            exact ⟨Below.refl _ _, rfl⟩
          refine allFrom_cons (stepQ_yes (by kernel_rfl) ?_) ?_
          · intro a_ w_ hk_
            have h0 : a_.eval (.tmp 0) = .slice (some ⟨b, off, none⟩) m c := hk_.old 0 (by kernel_rfl)
            have hx_ := hk_.ext
            clear hk_
            refine flow_plain rfl ?_
            exact gives_move rfl ⟨Below.refl _ _, h0⟩
          refine allFrom_cons (stepQ_yes (by kernel_rfl) ?_) ?_
          · intro a_ w_ hk_
            have h8 : a_.eval (.tmp 8) = .int .i64 (k : Int) := hk_.old 8 (by kernel_rfl)
            have hx_ := hk_.ext
            clear hk_
            refine flow_plain rfl ?_
            exact gives_move rfl ⟨Below.refl _ _, h8⟩
          refine allFrom_cons (stepQ_yes (by kernel_rfl) ?_) ?_
          · intro a_ w_ hk_
            have h36 : a_.eval (.tmp 36) = (.slice (some ⟨b, off, none⟩) m c) := hk_.got 1 36 _ (by kernel_rfl) rfl rfl
            have h37 : a_.eval (.tmp 37) = (.int .i64 (k : Int)) := hk_.got 2 37 _ (by kernel_rfl) rfl rfl
            have hx_ := hk_.ext
            clear hk_
            refine flow_plain rfl ?_
            unfold gives
            have hc_ : ∀ v, a_.eval (.const v) = v := fun _ => rfl
            have hn_ : ∀ f, a_.eval (.func f) = .func (.func f) #[] #[] := fun _ => rfl
            generalize a_.eval = ρ_ at *
            go_simp
            exact ⟨Below.refl _ _, rfl⟩
          refine allFrom_cons (stepQ_yes (by kernel_rfl) ?_) ?_
          · intro a_ w_ hk_
            have h38 : a_.eval (.tmp 38) = (.slice (some ⟨b, off + k, none⟩) (m - k) (c - k)) := hk_.got 3 38 _ (by kernel_rfl) rfl rfl
            have hx_ := hk_.ext
            clear hk_
            refine flow_plain rfl ?_
            unfold gives
            have hc_ : ∀ v, a_.eval (.const v) = v := fun _ => rfl
            have hn_ : ∀ f, a_.eval (.func f) = .func (.func f) #[] #[] := fun _ => rfl
            generalize a_.eval = ρ_ at *
            go_simp
            exact (Root_any (m - k) w_ l2 (m - k) (some ⟨b, off + k, none⟩) (c - k) w0.heap.size HD.out (Nat.le_refl _) (HL.out.below (bx_low hb4 hx_ hbs4)) (HRD.out.below (bx_low hb4 hx_ hbs4)) (Nat.le_trans hbs4 hx_.size) (by omega) (by omega) HMD.out).mono fun e w' hh => ⟨_, hh.1, hh.2, by rw [HH.out]; rfl⟩
          refine allFrom_cons (stepQ_yes (by kernel_rfl) ?_) ?_
          · intro a_ w_ hk_
            have h39 : a_.eval (.tmp 39) = (.agg (h.map cb).toArray) := hk_.got 4 39 _ (by kernel_rfl) rfl rfl
            have hx_ := hk_.ext
            clear hk_
            refine flow_plain rfl ?_
            exact gives_slice1 _ _ rfl _ h39 elHs (cells_cb hl) (by decide) (slice_hash hl)
          exact allFrom_nil
        · intro a_ w_ hk_
          have h35 : a_.eval (.tmp 35) = (.slice A4 hs2.length c4) := hk_.got 0 35 _ (by kernel_rfl) rfl rfl
          have h40 : (FP.sl 1 (h.map cb)).p (a_.eval (.tmp 40)) w_ := hk_.got 5 40 _ (by kernel_rfl) rfl rfl
          have hx_ := hk_.ext
          clear hk_
          obtain ⟨A40, c40, h40, r40⟩ := h40
          have hw := Nat.le_trans hbs4 hx_.size
          refine gives_appK _ _ _ rfl (.slice A4 hs2.length c4) h35 A40 1 c40 h40 elHs (own_keep HC.out.own hx_) r40 (len_cb hl) (one_cb _) h63 hby hw fun v' w' hown2 hg2 _ => ?_
          obtain ⟨A', c', rfl, _⟩ := own_form hown2
          exact ⟨w_, A', c', rfl, hx_, hg2, hown2⟩
        intro f_ w_ hf_ ht_
        have h35 : f_ 35 = (.slice A4 hs2.length c4) := (hf_ 0 35 _ (by decide) rfl rfl).elim fun _ h => h
        have h36 : f_ 36 = (.slice (some ⟨b, off, none⟩) m c) := (hf_ 1 36 _ (by decide) rfl rfl).elim fun _ h => h
        have h37 : f_ 37 = (.int .i64 (k : Int)) := (hf_ 2 37 _ (by decide) rfl rfl).elim fun _ h => h
        have h38 : f_ 38 = (.slice (some ⟨b, off + k, none⟩) (m - k) (c - k)) := (hf_ 3 38 _ (by decide) rfl rfl).elim fun _ h => h
        have h39 : f_ 39 = (.agg (h.map cb).toArray) := (hf_ 4 39 _ (by decide) rfl rfl).elim fun _ h => h
        have ht := ht_ 41 _ rfl rfl
        clear ht_
        simp only [mix, List.drop_succ_cons, List.drop_zero, h35, h36, h37, h38, h39]
        clear h35 h36 h37 h38 h39
        clear hf_
        obtain ⟨w1, A', c', h19, hx1, hg2, hown2⟩ := ht
        rw [h19]
        have hcw := HC.out.below hx1
        have hbk : Blk w_ go tHs #[.slice A4 hs2.length c4] := (hg2.block go hcw.bo.lt (fun e => own_ne hcw.own hcw.bo (fun cur hx => by cases hx) e.symm)).trans hcw.bo
        have c02 := hbk.cell 0
        have f02 := hbk.frozen 0
        have hput := setCell_put hbk (i := 0) (.slice A' (hs2.length + 1) c')
        obtain ⟨k1, k2⟩ := hcw.app hg2 hown2 (by decide) (by decide) hput
        have HF := hid k1
        have HB := hid ((hb4.trans (hx1.mono hbs4)).trans k2)
        clear k1 k2 hput hown2 hg2 hcw hbk h19 hx1 c0
        go_wp2
        refine bodyPost_ret (results_none rfl _ _ _) rfl ?_
        exact ⟨rfl, _, HF.out, HB.out⟩
      · have hp := prf_right (ls := ls) (m := i) wh h1 (by rw [hm]; exact hlt) (by rw [hm]; exact hle)
        rw [hm] at hp
        rw [hp]
        clear hp
        have hpl := prf_le (m - splitN m) (ls.drop (splitN m)) (i - splitN m) false (by rw [List.length_drop]; omega) (by omega)
        have HN : Hid (∀ w' : World, _) := hid fun w' => Split_any w' m (by omega)
        generalize hk : splitN m = k at *
        have HT := hid hlt'
        have HD := hid hld
        have HRT := hid hrt
        have HRD := hid hrd
        have HMT := hid hmt
        have HMD := hid hmd
        have HI := hid ih
        have hl := treeR_len (ls.take k)
        generalize ls.take k = l1 at *
        generalize ls.drop k = l2 at *
        clear hlt' hld hrt hrd hmt hmd ih hr hlen hm hk
        have hck : ¬ c = k := by omega
        have hkc : k ≤ c := by omega
        have hkm : k ≤ m := by omega
        have hik : IntKind.i64.wrap (k : Int) = (k : Int) := wr_i64 _ (by omega) (by omega)
        obtain ⟨h, hh⟩ : ∃ h, h = treeR l1 := ⟨_, rfl⟩
        obtain ⟨hs2, hhs2⟩ : ∃ hs2, hs2 = hs ++ prf l2 (i - k) false := ⟨_, rfl⟩
        have hl2n : hs2.length + 1 ≤ 1000000 := by rw [hhs2, List.length_append]; omega
        rw [← hh] at hl
        rw [← List.append_assoc, ← hh, ← hhs2]
        have HH := hid hh
        have HH2 := hid hhs2
        clear hh hhs2
        have e1 : (i : Int) - (k : Int) = ((i - k : Nat) : Int) := by omega
        go_enter Tryd.func23, Tryd.ntmps23
        go_wp2_with fail
        refine (HN.out w).mono ?_
        rintro e w3 ⟨rfl, rfl⟩
        go_wp2_with fail
        refine wp_flowQ (by kernel_rfl) [0, 0, 0, 6, 0, 0, 48, 127] 7 [false, false, false, false, false, false, false, false, false, false, false, false, false, false, false, false, false, false, false, false, false, false, false, false, false, false, false, false, false, false, false, false, false, false, false, false, false, false, false, false, false, false, true, true, true, true, true, true, true, true] (by kernel_rfl) (by decide) (by kernel_rfl) [FP.eq (pfV go gd), FP.eq (.slice (some ⟨b, off, none⟩) m c), FP.eq (.int .i64 (k : Int)), FP.eq (.slice (some ⟨b, off + k, none⟩) (m - k) (c - k)), FP.eq (.int .i64 (i : Int)), FP.eq (.int .i64 (k : Int)), FP.eq (.int .i64 ((i - k : Nat) : Int))] (fun v w2 => CapPost w0 go gd tPf (pfV go gd) hs2 (.returned v) w2) ?_ (q_of rfl ⟨rfl, ?_⟩) ?_
        · refine allFrom_cons (stepQ_yes (by kernel_rfl) ?_) ?_
          · intro a_ w_ hk_
            have h4 : a_.eval (.tmp 4) = .pointer (some ⟨gd, 0, none⟩) := hk_.old 4 (by kernel_rfl)
            have hx_ := hk_.ext
            clear hk_
            refine flow_plain rfl ?_
            unfold gives
            have hc_ : ∀ v, a_.eval (.const v) = v := fun _ => rfl
            have hn_ : ∀ f, a_.eval (.func f) = .func (.func f) #[] #[] := fun _ => rfl
            have hcell := (hx_.cell (p := ⟨gd, 0, none⟩) hgd).trans cd
            generalize a_.eval = ρ_ at *
            go_simp
            exact ⟨Below.refl _ _, rfl⟩
          refine allFrom_cons (stepQ_yes (by kernel_rfl) ?_) ?_
          · intro a_ w_ hk_
            have h0 : a_.eval (.tmp 0) = .slice (some ⟨b, off, none⟩) m c := hk_.old 0 (by kernel_rfl)
            have hx_ := hk_.ext
            clear hk_
            refine flow_plain rfl ?_
            exact gives_move rfl ⟨Below.refl _ _, h0⟩
          refine allFrom_cons (stepQ_yes (by kernel_rfl) ?_) ?_
          · intro a_ w_ hk_
            have h8 : a_.eval (.tmp 8) = .int .i64 (k : Int) := hk_.old 8 (by kernel_rfl)
            have hx_ := hk_.ext
            clear hk_
            refine flow_plain rfl ?_
            exact gives_move rfl ⟨Below.refl _ _, h8⟩
          refine allFrom_cons (stepQ_yes (by kernel_rfl) ?_) ?_
          · intro a_ w_ hk_
            have h43 : a_.eval (.tmp 43) = (.slice (some ⟨b, off, none⟩) m c) := hk_.got 1 43 _ (by kernel_rfl) rfl rfl
            have h44 : a_.eval (.tmp 44) = (.int .i64 (k : Int)) := hk_.got 2 44 _ (by kernel_rfl) rfl rfl
            have hx_ := hk_.ext
            clear hk_
            refine flow_plain rfl ?_
            unfold gives
            have hc_ : ∀ v, a_.eval (.const v) = v := fun _ => rfl
            have hn_ : ∀ f, a_.eval (.func f) = .func (.func f) #[] #[] := fun _ => rfl
            generalize a_.eval = ρ_ at *
            go_simp
            exact ⟨Below.refl _ _, rfl⟩
          refine allFrom_cons (stepQ_yes (by kernel_rfl) ?_) ?_
          · intro a_ w_ hk_
            have h1 : a_.eval (.tmp 1) = .int .i64 (i : Int) := hk_.old 1 (by kernel_rfl)
            have hx_ := hk_.ext
            clear hk_
            refine flow_plain rfl ?_
            exact gives_move rfl ⟨Below.refl _ _, h1⟩
          refine allFrom_cons (stepQ_yes (by kernel_rfl) ?_) ?_
          · intro a_ w_ hk_
            have h8 : a_.eval (.tmp 8) = .int .i64 (k : Int) := hk_.old 8 (by kernel_rfl)
            have hx_ := hk_.ext
            clear hk_
            refine flow_plain rfl ?_
            exact gives_move rfl ⟨Below.refl _ _, h8⟩
          refine allFrom_cons (stepQ_yes (by kernel_rfl) ?_) ?_
          · intro a_ w_ hk_
            have h46 : a_.eval (.tmp 46) = (.int .i64 (i : Int)) := hk_.got 4 46 _ (by kernel_rfl) rfl rfl
            have h47 : a_.eval (.tmp 47) = (.int .i64 (k : Int)) := hk_.got 5 47 _ (by kernel_rfl) rfl rfl
            have hx_ := hk_.ext
            clear hk_
            refine flow_plain rfl ?_
            unfold gives
            have hc_ : ∀ v, a_.eval (.const v) = v := fun _ => rfl
            have hn_ : ∀ f, a_.eval (.func f) = .func (.func f) #[] #[] := fun _ => rfl
            generalize a_.eval = ρ_ at *
            go_simp
            exact ⟨Below.refl _ _, congrArg (Value.int _) (wr_i64 _ (by omega) (by omega))⟩
          exact allFrom_nil
        · intro a_ w_ hk_
          have h42 : a_.eval (.tmp 42) = (pfV go gd) := hk_.got 0 42 _ (by kernel_rfl) rfl rfl
          have h45 : a_.eval (.tmp 45) = (.slice (some ⟨b, off + k, none⟩) (m - k) (c - k)) := hk_.got 3 45 _ (by kernel_rfl) rfl rfl
          have h48 : a_.eval (.tmp 48) = (.int .i64 ((i - k : Nat) : Int)) := hk_.got 6 48 _ (by kernel_rfl) rfl rfl
          have hx_ := hk_.ext
          clear hk_
          unfold gives
          have hc_ : ∀ v, a_.eval (.const v) = v := fun _ => rfl
          have hn_ : ∀ f, a_.eval (.func f) = .func (.func f) #[] #[] := fun _ => rfl
          unfold pfV at *
          generalize a_.eval = ρ_ at *
          go_simp
          exact (HI.out w_ l2 (m - k) (some ⟨b, off + k, none⟩) (c - k) (i - k) false (.slice Ao hs.length co) hs HD.out (by omega) (by omega) (by omega) HRD.out (by omega) (by omega) HMD.out (by omega) (HC.out.below hx_) (bx_low hb hx_ hbs)).mono fun e w' hh => ⟨_, hh.1, by rw [HH2.out]; exact ⟨rfl, hh.2⟩⟩
        intro f_ w_ hf_ ht_
        have h42 : f_ 42 = (pfV go gd) := (hf_ 0 42 _ (by decide) rfl rfl).elim fun _ h => h
        have h43 : f_ 43 = (.slice (some ⟨b, off, none⟩) m c) := (hf_ 1 43 _ (by decide) rfl rfl).elim fun _ h => h
        have h44 : f_ 44 = (.int .i64 (k : Int)) := (hf_ 2 44 _ (by decide) rfl rfl).elim fun _ h => h
        have h45 : f_ 45 = (.slice (some ⟨b, off + k, none⟩) (m - k) (c - k)) := (hf_ 3 45 _ (by decide) rfl rfl).elim fun _ h => h
        have h46 : f_ 46 = (.int .i64 (i : Int)) := (hf_ 4 46 _ (by decide) rfl rfl).elim fun _ h => h
        have h47 : f_ 47 = (.int .i64 (k : Int)) := (hf_ 5 47 _ (by decide) rfl rfl).elim fun _ h => h
        have h48 : f_ 48 = (.int .i64 ((i - k : Nat) : Int)) := (hf_ 6 48 _ (by decide) rfl rfl).elim fun _ h => h
        have ht := ht_ 49 _ rfl rfl
        clear ht_
        simp only [mix, List.drop_succ_cons, List.drop_zero, h42, h43, h44, h45, h46, h47, h48]
        clear h42 h43 h44 h45 h46 h47 h48
        clear hf_
        rename World => w4
        obtain ⟨_, vo4, hcap4, hb4⟩ := ht
        clear c0 cd hgo hgd HC hb
        have HC := hid hcap4
        obtain ⟨A4, c4, rfl, _, _, _⟩ := own_form hcap4.own
        have c0 : w4.cell? ⟨go, 0, none⟩ = some (.slice A4 hs2.length c4) := hcap4.bo.cell 0
        have hgo := hcap4.bo.lt
        have hbs4 := hb4.size
        clear hcap4
        have h63 : hs2.length + 1 ≤ maxLen := by unfold maxLen; omega
        have hby : (hs2.length + 1) * 32 ≤ 140737488355328 := by omega
        clear HI HH2
        go_wp2_with fail
        refine wp_flowQ (by kernel_rfl) [0, 0, 0, 6, 14, 30, 63, 127] 6 [false, false, false, false, false, false, false, false, false, false, false, false, false, false, false, false, false, false, false, false, false, false, false, false, false, false, false, false, false, false, false, false, false, false, false, false, false, false, false, false, false, false, false, false, false, false, false, false, false, false, true, true, true, true, true, true, true] (by kernel_rfl) (by decide) (by kernel_rfl) [FP.eq (.slice A4 hs2.length c4), FP.eq (.slice (some ⟨b, off, none⟩) m c), FP.eq (.int .i64 (k : Int)), FP.eq (.slice (some ⟨b, off, none⟩) k c), FP.eq (.agg (h.map cb).toArray), FP.sl 1 (h.map cb)] (fun v w2 => ∃ w1 A' c', v = .slice A' (hs2.length + 1) c' ∧ Below w4.heap.size w4 w1 ∧ w1.grownBy w2 (Value.slice A4 hs2.length c4).ownBlock ∧ w2.ownsRow w0.heap.size 37 32 (.slice A' (hs2.length + 1) c') (hs2.length + 1) (hs2.flatten.map cb ++ h.map cb)) ?_ (q_of rfl ⟨rfl, ?_⟩) ?_
        · refine allFrom_cons (stepQ_yes (by kernel_rfl) ?_) ?_
          · intro a_ w_ hk_
            have h3 : a_.eval (.tmp 3) = .pointer (some ⟨go, 0, none⟩) := hk_.old 3 (by kernel_rfl)
            have hx_ := hk_.ext
            clear hk_
            refine flow_plain rfl ?_
            unfold gives
            have hc_ : ∀ v, a_.eval (.const v) = v := fun _ => rfl
            have hn_ : ∀ f, a_.eval (.func f) = .func (.func f) #[] #[] := fun _ => rfl
            have hcell := (hx_.cell (p := ⟨go, 0, none⟩) hgo).trans c0
            generalize a_.eval = ρ_ at *
            go_simp
            exact ⟨Below.refl _ _, rfl⟩
          refine allFrom_cons (stepQ_yes (by kernel_rfl) ?_) ?_
          · intro a_ w_ hk_
            have h0 : a_.eval (.tmp 0) = .slice (some ⟨b, off, none⟩) m c := hk_.old 0 (by kernel_rfl)
            have hx_ := hk_.ext
            clear hk_
            refine flow_plain rfl ?_
            exact gives_move rfl ⟨Below.refl _ _, h0⟩
          refine allFrom_cons (stepQ_yes (by kernel_rfl) ?_) ?_
          · intro a_ w_ hk_
            have h8 : a_.eval (.tmp 8) = .int .i64 (k : Int) := hk_.old 8 (by kernel_rfl)
            have hx_ := hk_.ext
            clear hk_
            refine flow_plain rfl ?_
            exact gives_move rfl ⟨Below.refl _ _, h8⟩
          refine allFrom_cons (stepQ_yes (by kernel_rfl) ?_) ?_
          · intro a_ w_ hk_
            have h51 : a_.eval (.tmp 51) = (.slice (some ⟨b, off, none⟩) m c) := hk_.got 1 51 _ (by kernel_rfl) rfl rfl
            have h52 : a_.eval (.tmp 52) = (.int .i64 (k : Int)) := hk_.got 2 52 _ (by kernel_rfl) rfl rfl
            have hx_ := hk_.ext
            clear hk_
            refine flow_plain rfl ?_
            unfold gives
            have hc_ : ∀ v, a_.eval (.const v) = v := fun _ => rfl
            have hn_ : ∀ f, a_.eval (.func f) = .func (.func f) #[] #[] := fun _ => rfl
            generalize a_.eval = ρ_ at *
            go_simp
            exact ⟨Below.refl _ _, rfl⟩
          refine allFrom_cons (stepQ_yes (by kernel_rfl) ?_) ?_
          · intro a_ w_ hk_
            have h53 : a_.eval (.tmp 53) = (.slice (some ⟨b, off, none⟩) k c) := hk_.got 3 53 _ (by kernel_rfl) rfl rfl
            have hx_ := hk_.ext
            clear hk_
            refine flow_plain rfl ?_
            unfold gives
            have hc_ : ∀ v, a_.eval (.const v) = v := fun _ => rfl
            have hn_ : ∀ f, a_.eval (.func f) = .func (.func f) #[] #[] := fun _ => rfl
            generalize a_.eval = ρ_ at *
            go_simp
            exact (Root_any k w_ l1 k (some ⟨b, off, none⟩) c w0.heap.size HT.out (Nat.le_refl _) (HL.out.below (bx_low hb4 hx_ hbs4)) (HRT.out.below (bx_low hb4 hx_ hbs4)) (Nat.le_trans hbs4 hx_.size) hkc (by omega) HMT.out).mono fun e w' hh => ⟨_, hh.1, hh.2, by rw [HH.out]; rfl⟩
          refine allFrom_cons (stepQ_yes (by kernel_rfl) ?_) ?_
          · intro a_ w_ hk_
            have h54 : a_.eval (.tmp 54) = (.agg (h.map cb).toArray) := hk_.got 4 54 _ (by kernel_rfl) rfl rfl
            have hx_ := hk_.ext
            clear hk_
            refine flow_plain rfl ?_
            exact gives_slice1 _ _ rfl _ h54 elHs (cells_cb hl) (by decide) (slice_hash hl)
          exact allFrom_nil
        · intro a_ w_ hk_
          have h50 : a_.eval (.tmp 50) = (.slice A4 hs2.length c4) := hk_.got 0 50 _ (by kernel_rfl) rfl rfl
          have h55 : (FP.sl 1 (h.map cb)).p (a_.eval (.tmp 55)) w_ := hk_.got 5 55 _ (by kernel_rfl) rfl rfl
          have hx_ := hk_.ext
          clear hk_
          obtain ⟨A55, c55, h55, r55⟩ := h55
          have hw := Nat.le_trans hbs4 hx_.size
          refine gives_appK _ _ _ rfl (.slice A4 hs2.length c4) h50 A55 1 c55 h55 elHs (own_keep HC.out.own hx_) r55 (len_cb hl) (one_cb _) h63 hby hw fun v' w' hown2 hg2 _ => ?_
          obtain ⟨A', c', rfl, _⟩ := own_form hown2
          exact ⟨w_, A', c', rfl, hx_, hg2, hown2⟩
        intro f_ w_ hf_ ht_
        have h50 : f_ 50 = (.slice A4 hs2.length c4) := (hf_ 0 50 _ (by decide) rfl rfl).elim fun _ h => h
        have h51 : f_ 51 = (.slice (some ⟨b, off, none⟩) m c) := (hf_ 1 51 _ (by decide) rfl rfl).elim fun _ h => h
        have h52 : f_ 52 = (.int .i64 (k : Int)) := (hf_ 2 52 _ (by decide) rfl rfl).elim fun _ h => h
        have h53 : f_ 53 = (.slice (some ⟨b, off, none⟩) k c) := (hf_ 3 53 _ (by decide) rfl rfl).elim fun _ h => h
        have h54 : f_ 54 = (.agg (h.map cb).toArray) := (hf_ 4 54 _ (by decide) rfl rfl).elim fun _ h => h
        have ht := ht_ 56 _ rfl rfl
        clear ht_
        simp only [mix, List.drop_succ_cons, List.drop_zero, h50, h51, h52, h53, h54]
        clear h50 h51 h52 h53 h54
        clear hf_
        obtain ⟨w1, A', c', h19, hx1, hg2, hown2⟩ := ht
        rw [h19]
        have hcw := HC.out.below hx1
        have hbk : Blk w_ go tHs #[.slice A4 hs2.length c4] := (hg2.block go hcw.bo.lt (fun e => own_ne hcw.own hcw.bo (fun cur hx => by cases hx) e.symm)).trans hcw.bo
        have c02 := hbk.cell 0
        have f02 := hbk.frozen 0
        have hput := setCell_put hbk (i := 0) (.slice A' (hs2.length + 1) c')
        obtain ⟨k1, k2⟩ := hcw.app hg2 hown2 (by decide) (by decide) hput
        have HF := hid k1
        have HB := hid ((hb4.trans (hx1.mono hbs4)).trans k2)
        clear k1 k2 hput hown2 hg2 hcw hbk h19 hx1 c0
        go_wp2
        refine bodyPost_ret (results_none rfl _ _ _) rfl ?_
        exact ⟨rfl, _, HF.out, HB.out⟩
    · obtain rfl : i = m := by omega
      have hp := prf_end (ls := ls) (m := i) wh (by omega)
      rw [hp]
      clear hp
      cases wh with
      | true =>
        rw [if_pos rfl, List.append_nil]
        clear hlen hr ih
        go_enter Tryd.func23, Tryd.ntmps23
        go_wp2
        refine bodyPost_ret (results_none rfl _ _ _) rfl ?_
        exact ⟨rfl, _, HC.out, hb⟩
      | false =>
        rw [if_neg (by simp)]
        have HR := hid hr
        have HM := hid hlen
        have hl := treeR_len ls
        have HT := hid hm
        obtain ⟨h, hh⟩ : ∃ h, h = treeR ls := ⟨_, rfl⟩
        rw [← hh] at hl ⊢
        have HH := hid hh
        clear hh hm hlen hr ih
        have h63 : hs.length + 1 ≤ maxLen := by unfold maxLen; omega
        have hby : (hs.length + 1) * 32 ≤ 140737488355328 := by omega
        have hbs := hb.size
        go_enter Tryd.func23, Tryd.ntmps23
        go_wp2_with fail
        refine wp_flowQ (by kernel_rfl) [0, 0, 2, 6, 15, 31] 4 [false, false, false, false, false, false, false, false, false, false, false, false, false, false, false, true, true, true, true, true] (by kernel_rfl) (by decide) (by kernel_rfl) [FP.eq (.slice Ao hs.length co), FP.eq (.slice A i c), FP.eq (.agg (h.map cb).toArray), FP.sl 1 (h.map cb)] (fun v w2 => ∃ w1 A' c', v = .slice A' (hs.length + 1) c' ∧ Below w.heap.size w w1 ∧ w1.grownBy w2 (Value.slice Ao hs.length co).ownBlock ∧ w2.ownsRow w0.heap.size 37 32 (.slice A' (hs.length + 1) c') (hs.length + 1) (hs.flatten.map cb ++ h.map cb)) ?_ (q_of rfl ⟨rfl, ?_⟩) ?_
        · refine allFrom_cons (stepQ_yes (by kernel_rfl) ?_) ?_
          · intro a_ w_ hk_
            have h3 : a_.eval (.tmp 3) = .pointer (some ⟨go, 0, none⟩) := hk_.old 3 (by kernel_rfl)
            have hx_ := hk_.ext
            clear hk_
            refine flow_plain rfl ?_
            unfold gives
            have hc_ : ∀ v, a_.eval (.const v) = v := fun _ => rfl
            have hn_ : ∀ f, a_.eval (.func f) = .func (.func f) #[] #[] := fun _ => rfl
            have hcell := (hx_.cell (p := ⟨go, 0, none⟩) hgo).trans c0
            generalize a_.eval = ρ_ at *
            go_simp
            exact ⟨Below.refl _ _, rfl⟩
          refine allFrom_cons (stepQ_yes (by kernel_rfl) ?_) ?_
          · intro a_ w_ hk_
            have h0 : a_.eval (.tmp 0) = .slice A i c := hk_.old 0 (by kernel_rfl)
            have hx_ := hk_.ext
            clear hk_
            refine flow_plain rfl ?_
            exact gives_move rfl ⟨Below.refl _ _, h0⟩
          refine allFrom_cons (stepQ_yes (by kernel_rfl) ?_) ?_
          · intro a_ w_ hk_
            have h16 : a_.eval (.tmp 16) = (.slice A i c) := hk_.got 1 16 _ (by kernel_rfl) rfl rfl
            have hx_ := hk_.ext
            clear hk_
            refine flow_plain rfl ?_
            unfold gives
            have hc_ : ∀ v, a_.eval (.const v) = v := fun _ => rfl
            have hn_ : ∀ f, a_.eval (.func f) = .func (.func f) #[] #[] := fun _ => rfl
            generalize a_.eval = ρ_ at *
            go_simp
            exact (Root_any i w_ ls i A c w0.heap.size HT.out (Nat.le_refl _) (HL.out.below (bx_low hb hx_ hbs)) (HR.out.below (bx_low hb hx_ hbs)) (Nat.le_trans hbs hx_.size) hc hc2 HM.out).mono fun e w' hh => ⟨_, hh.1, hh.2, by rw [HH.out]; rfl⟩
          refine allFrom_cons (stepQ_yes (by kernel_rfl) ?_) ?_
          · intro a_ w_ hk_
            have h17 : a_.eval (.tmp 17) = (.agg (h.map cb).toArray) := hk_.got 2 17 _ (by kernel_rfl) rfl rfl
            have hx_ := hk_.ext
            clear hk_
            refine flow_plain rfl ?_
            exact gives_slice1 _ _ rfl _ h17 elHs (cells_cb hl) (by decide) (slice_hash hl)
          exact allFrom_nil
        · intro a_ w_ hk_
          have h15 : a_.eval (.tmp 15) = (.slice Ao hs.length co) := hk_.got 0 15 _ (by kernel_rfl) rfl rfl
          have h18 : (FP.sl 1 (h.map cb)).p (a_.eval (.tmp 18)) w_ := hk_.got 3 18 _ (by kernel_rfl) rfl rfl
          have hx_ := hk_.ext
          clear hk_
          obtain ⟨A18, c18, h18, r18⟩ := h18
          have hw := Nat.le_trans hbs hx_.size
          refine gives_appK _ _ _ rfl (.slice Ao hs.length co) h15 A18 1 c18 h18 elHs (own_keep HC.out.own hx_) r18 (len_cb hl) (one_cb _) h63 hby hw fun v' w' hown2 hg2 _ => ?_
          obtain ⟨A', c', rfl, _⟩ := own_form hown2
          exact ⟨w_, A', c', rfl, hx_, hg2, hown2⟩
        intro f_ w_ hf_ ht_
        have h15 : f_ 15 = (.slice Ao hs.length co) := (hf_ 0 15 _ (by decide) rfl rfl).elim fun _ h => h
        have h16 : f_ 16 = (.slice A i c) := (hf_ 1 16 _ (by decide) rfl rfl).elim fun _ h => h
        have h17 : f_ 17 = (.agg (h.map cb).toArray) := (hf_ 2 17 _ (by decide) rfl rfl).elim fun _ h => h
        have ht := ht_ 19 _ rfl rfl
        clear ht_
        simp only [mix, List.drop_succ_cons, List.drop_zero, h15, h16, h17]
        clear h15 h16 h17
        clear hf_
        obtain ⟨w1, A', c', h19, hx1, hg2, hown2⟩ := ht
        rw [h19]
        have hcw := HC.out.below hx1
        have hbk : Blk w_ go tHs #[.slice Ao hs.length co] := (hg2.block go hcw.bo.lt (fun e => own_ne hcw.own hcw.bo (fun cur hx => by cases hx) e.symm)).trans hcw.bo
        have c02 := hbk.cell 0
        have f02 := hbk.frozen 0
        have hput := setCell_put hbk (i := 0) (.slice A' (hs.length + 1) c')
        obtain ⟨k1, k2⟩ := hcw.app hg2 hown2 (by decide) (by decide) hput
        have HF := hid k1
        have HB := hid ((hb.trans (hx1.mono hbs)).trans k2)
        clear k1 k2 hput hown2 hg2 hcw hbk h19 hx1 c0 cd hb
        go_wp2
        refine bodyPost_ret (results_none rfl _ _ _) rfl ?_
        exact ⟨rfl, _, HF.out, HB.out⟩
end Go.Proofs.YtjkolpioglpigaaDoor
