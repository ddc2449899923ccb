
/- The document's answer for trees: Root, from below. -/
import Derived.Test.YtjkolpioglpigaaDoorChW
namespace Go.Proofs.YtjkolpioglpigaaDoor
open Go.RowKit
set_option linter.unusedVariables false
theorem cell_of_heap {w w' : World} {g : Nat} (h : w'.heap[g]? = w.heap[g]?) (i : Nat) : w'.cell? ⟨g, i, none⟩ = w.cell? ⟨g, i, none⟩ := by
  simp [World.cell?, h]
theorem rev_at (p : Nat × List UInt8) (a b : List (Nat × List UInt8)) (q : Nat × List UInt8) : ((p :: (a ++ q :: b)).map (·.2)).reverse[b.length]? = some q.2 := by
  rw [show ((p :: (a ++ q :: b)).map (·.2)).reverse = (b.map (·.2)).reverse ++ (q.2 :: ((a.map (·.2)).reverse ++ [p.2])) by simp, List.getElem?_append_right (by simp)]
  simp
theorem own_other {w w1 : World} {base e size n g t : Nat} {v : Value} {xs : List Value} {cs : Array Value} (h : w.ownsRow base e size v n xs) (hp : Put w w1 g t cs) (hne : v.ownBlock ≠ some g) : w1.ownsRow base e size v n xs :=
  h.kept (row := some g) ⟨hp.os, hp.tape, hp.output, Nat.le_of_eq hp.size.symm, fun k _ hk => hp.oth k (fun e => hk (by rw [e]))⟩ (.inr hne)
set_option maxRecDepth 10000 in
set_option maxHeartbeats 2000000 in
theorem rRoot_some (w : World) {A : Option Addr} {c : Nat} {ls : List (List UInt8)} (hr : Rd w w.heap.size A (ls.map sv)) (hc : ls.length ≤ c) (h20 : ls.length ≤ 20) (h0 : 0 < ls.length) (hs : ∀ l ∈ ls, l.length ≤ 60) :
    Calls Tryd.prog 26 #[.slice A ls.length c] w fun e w' => e = .returned (.agg ((treeR ls).map cb).toArray) ∧ Below w.heap.size w w' := by
  have HR := hid hr
  have HS := hid hs
  clear hr hs
  have h32 := treeR_len ls
  obtain ⟨T, hT⟩ : ∃ T, T = treeR ls := ⟨_, rfl⟩
  rw [← hT] at h32 ⊢
  have HT := hid (hT.trans (stk_root ls).symm)
  clear hT
  go_enter Tryd.func26, Tryd.ntmps26
  go_wp2_with (first
    | ((with_reducible refine wpAtC ?_); refine wpList_alloc (w := w) rfl _ rfl zeroH ?_; intro g2 w2 hg2 hg2' hz2 hb2; simp only [Act.put, List.setIfInBounds_toArray, List.set_cons_succ, List.set_cons_zero]))
  have hb0 : ((ls.length : Int) == 0) = false := by assumption
  rw [hb0]
  clear hb0
  go_loopw [3, 4, 5] (fun v3 v4 v5 wr => ∃ i : Nat, i ≤ ls.length ∧ v5 = .int .i64 (i : Int) ∧ wr.ownsRow w2.heap.size 37 32 v3 (stk (ls.take i)).length (hsS (stk (ls.take i))) ∧ wr.ownsRow w2.heap.size 3 1 v4 (stk (ls.take i)).length (nsS (stk (ls.take i))) ∧ Below w2.heap.size w2 wr) (fun _ _ v5 _ => ls.length - (intOf v5).toNat)
  case atStart => exact ⟨0, Nat.zero_le _, rfl, nil_ownP _ _ _ _, nil_ownP _ _ _ _, Below.refl _ _⟩
  case round =>
    obtain ⟨i, hi, rfl, hown3, hown4, hbr⟩ := hrel
    rename World => wr
    by_cases hlt : i < ls.length
    · have hat := (HR.out.below (bx_trans hb2 hbr)).at_ (k := i) (by rw [List.length_map]; omega)
      obtain ⟨b, off, rfl, hbl, hcS⟩ := hat
      have hci : wr.cell? ⟨b, off + i, none⟩ = some (.string ⟨(ls[i]).toArray⟩) := hcS i (sv ls[i]) (by rw [List.getElem?_map, List.getElem?_eq_getElem hlt]; rfl)
      clear hcS
      have hl60 := HS.out ls[i] (List.getElem_mem hlt)
      have HSN := hid (show stk (ls.take (i + 1)) = ins 1 (leafL ls[i]) (stk (ls.take i)) by rw [List.take_succ_eq_append_getElem hlt, stk_snoc])
      have HST := hid (sizeS_stk (ls.take i))
      have HLE := hid (stk_len (ls.take i))
      have HOK := hid (stk_32 (ls.take i))
      generalize stk (ls.take i) = st at *
      have HLF := hid (fun w' => rLeaf_any w' ls[i] (by omega))
      generalize hlf : shaL (0 :: ls[i]) = L at HLF
      generalize ls[i] = x at *
      obtain ⟨A3, c3, rfl, _, _, _⟩ := own_form hown3
      obtain ⟨A4, c4, rfl, _, _, _⟩ := own_form hown4
      generalize hC9 : Code.region 9 _ _ = C9
      have HC9 := hid hC9
      clear hC9
      go_wp2_with fail
      refine (HLF.out wr).mono ?_
      rintro e w5 ⟨rfl, hb5⟩
      have hLl : L.length = 32 := by rw [← hlf]; exact shaL_len _
      have hleaf : leafL x = L := hlf
      rw [hleaf] at HSN
      clear hlf hleaf hci
      have hbs := hbr.size
      have hLE := HLE.out
      rw [List.length_take] at hLE
      have hst20 : st.length < 20 := by omega
      have hb6 := bx_alloc hb5 (.cells (Value.agg (L.map cb).toArray).cells 37)
      have hown35 := own_keep hown3 hb6
      have rd6 := rd_of_row (w := w5.alloc (.cells (Value.agg (L.map cb).toArray).cells 37)) (heap_new rfl) (xs := L.map cb) rfl
      have h63 : st.length + 1 ≤ maxLen := by unfold maxLen; omega
      have hby : (st.length + 1) * 32 ≤ 140737488355328 := by omega
      have hbs6 := Nat.le_trans hbs hb6.size
      go_wp2_with (first
        | ((with_reducible refine wpAtC ?_); refine wpList_gives rfl (gives_slice1 _ _ rfl _ rfl elHs (cells_cb hLl) (by decide) (S := fun v w' => v = .slice (some ⟨w5.heap.size, 0, none⟩) 1 1 ∧ w' = w5.alloc (.cells (Value.agg (L.map cb).toArray).cells 37)) ⟨rfl, rfl⟩) ?_; rintro v6 w6 ⟨rfl, rfl⟩; simp only [Act.put, List.setIfInBounds_toArray, List.set_cons_succ, List.set_cons_zero])
        | (at_builtin; refine wpList_app rfl _ _ _ rfl _ rfl _ _ _ rfl elHs hown35 rd6 (len_cb hLl) (one_cb _) h63 hby hbs6 ?_; intro v7 w7 hown7 hg7 hat7))
      obtain rfl := HC9.out
      clear HC9
      have hb7 := own_below (hbr.trans (hb6.mono hbr.size)) hown35 hg7
      have hown46 := own_keep hown4 hb6
      have hown47 := hown46.kept hg7 (own_apart hown46 hown35 (by decide))
      have hown48 := own_keep hown47 (bx_alloc (Below.refl _ w7) (.cells #[.int .i64 1] 3))
      have hb8 := bx_alloc hb7 (.cells #[.int .i64 1] 3)
      have hbs8 := hb8.size
      have rd8 := rd_of_row (w := w7.alloc (.cells #[.int .i64 1] 3)) (heap_new rfl) (xs := [.int .i64 1]) rfl
      have hby8 : (st.length + 1) * 8 ≤ 140737488355328 := by omega
      have hown78 := own_keep hown7 (bx_alloc (Below.refl _ w7) (.cells #[.int .i64 1] 3))
      go_wp2_with (at_builtin; refine wpList_app rfl _ _ _ rfl _ rfl _ _ _ rfl elI hown48 rd8 rfl (one_nsS _ (by intro v hv; simp at hv; exact ⟨1, hv⟩)) h63 hby8 hbs8 ?_; intro v9 w9 hown9 hg9 hat9; obtain ⟨A9, c9, rfl, _, _, _⟩ := own_form hown9)
      have hown79 := hown78.kept hg9 (own_apart hown78 hown48 (by decide))
      have hb9 := own_below hb8 hown48 hg9
      obtain ⟨Z, hZ⟩ : ∃ Z, Z = stk (ls.take (i + 1)) := ⟨_, rfl⟩
      have HZ := hid hZ
      have hZf : fin ((1, L) :: st) = Z := by rw [hZ, HSN.out]; rfl
      have hsz : sizeS ((1, L) :: st) = i + 1 := by rw [sizeS_cons, HST.out, List.length_take]; show 1 + _ = _; omega
      have hok : ∀ q ∈ (1, L) :: st, q.2.length = 32 := by
        intro q hq
        rcases List.mem_cons.1 hq with rfl | hq
        · exact hLl
        · exact HOK.out q hq
      rw [← hsS_cons (1, L) st] at hown79
      have hown99 : w9.ownsRow w2.heap.size 3 1 (.slice A9 (st.length + 1) c9) (st.length + 1) (nsS ((1, L) :: st)) := by rw [nsS_cons]; exact hown9
      clear hat9 hat7 hg9 hg7
      have hstl : st.length ≤ i := by omega
      have hil : i < 20 := by omega
      go_loopw [3, 4, 6] (fun v3 v4 v6 wq => ∃ (q : Nat × List UInt8) (r : List (Nat × List UInt8)) (n : Nat), fin (q :: r) = Z ∧ sizeS (q :: r) = i + 1 ∧ (∀ q' ∈ q :: r, q'.2.length = 32) ∧ r.length + 1 = n ∧ n ≤ 21 ∧ v6 = .int .i64 (n : Int) ∧ wq.ownsRow w2.heap.size 37 32 v3 n (hsS (q :: r)) ∧ wq.ownsRow w2.heap.size 3 1 v4 n (nsS (q :: r)) ∧ Below w2.heap.size w2 wq) (fun _ _ v6 _ => (intOf v6).toNat)
      case atStart => exact ⟨(1, L), st, st.length + 1, hZf, hsz, hok, rfl, by omega, rfl, hown79, hown99, hb9⟩
      case round =>
        clear hown79 hown99 hb9 hown3 hown4 hown35 hown46 hown47 hown48 hown78 rd6 rd8 hsz hok hZf
        obtain ⟨q, r, n, hf, hz2, hk2, hrn, hn21, rfl, ho3, ho4, hbq⟩ := hrel
        rename World => wq
        obtain ⟨s, h⟩ := q
        obtain ⟨g3, p3, e3, hg3, hg3', hp3, hm3⟩ := own_block ho3 (by omega)
        obtain ⟨g4, p4, e4, hg4, hg4', hp4, hm4⟩ := own_block ho4 (by omega)
        subst e3 e4
        cases r with
        | nil =>
          rw [fin_one] at hf
          have hn1 : n ≤ 1 := by rw [List.length_nil] at hrn; omega
          have HF := hid hf
          have HRN := hid hrn
          clear hf hrn
          go_wp2_with fail
          refine wp_flow (by kernel_rfl) [0, 1, 3, 7, 7, 23, 63, 127, 7, 7, 519, 1799, 3847, 8191, 16383] 15 [false, false, false, false, false, false, false, false, false, false, false, false, false, false, false, false, false, false, false, false, false, false, false, false, false, false, false, false, false, false, false, false, false, true, true, true, true, true, true, true, true, true, true, true, true, true, true, true] (by kernel_rfl) (by decide) (by kernel_rfl) [FP.eq (.int .i64 (n : Int)), FP.eq (.bool false), FP.eq (.bool false), FP.any, FP.any, FP.any, FP.any, FP.any, FP.any, FP.any, FP.any, FP.any, FP.any, FP.any, FP.eq (.bool false)] ?_ ?_
          · refine allFrom_cons ?_ ?_
            · intro a_ w_ hk_
              have h6 : a_.eval (.tmp 6) = .int .i64 (n : Int) := hk_.old 6 (by kernel_rfl)
              have hx_ := hk_.ext
              clear hk_
              refine flow_plain rfl ?_
              exact gives_move rfl ⟨Below.refl _ _, h6⟩
            refine allFrom_cons ?_ ?_
            · intro a_ w_ hk_
              have h33 : a_.eval (.tmp 33) = (.int .i64 (n : Int)) := hk_.got 0 33 _ (by kernel_rfl) rfl rfl
              have hx_ := hk_.ext
              clear hk_
              refine flow_plain rfl ?_
              unfold gives
              have hc_ : ∀ v, a_.eval (.const v) = v := fun _ => rfl
              have hn_ : ∀ f, a_.eval (.func f) = .func (.func f) #[] #[] := fun _ => rfl
              generalize a_.eval = ρ_ at *
              go_simp
              exact ⟨Below.refl _ _, congrArg Value.bool (decide_eq_false (by omega))⟩
            refine allFrom_cons ?_ ?_
            · intro a_ w_ hk_
              have h34 : a_.eval (.tmp 34) = (.bool false) := hk_.got 1 34 _ (by kernel_rfl) rfl rfl
              have hx_ := hk_.ext
              clear hk_
              refine flow_plain rfl ?_
              exact gives_move rfl ⟨Below.refl _ _, h34⟩
            refine allFrom_cons ?_ ?_
            · intro a_ w_ hk_
              have h4 : a_.eval (.tmp 4) = .slice (some ⟨g4, 0, none⟩) n p4 := hk_.old 4 (by kernel_rfl)
              have hg_ : a_.eval (.tmp 35) = .bool false := hk_.got 2 35 _ (by kernel_rfl) rfl rfl
              have hy_ := hk_.want 2 _ 35 false rfl rfl hg_
              have hx_ := hk_.ext
              clear hk_
              exact flow_skip rfl hy_ (by decide) trivial
            refine allFrom_cons ?_ ?_
            · intro a_ w_ hk_
              have h6 : a_.eval (.tmp 6) = .int .i64 (n : Int) := hk_.old 6 (by kernel_rfl)
              have hg_ : a_.eval (.tmp 35) = .bool false := hk_.got 2 35 _ (by kernel_rfl) rfl rfl
              have hy_ := hk_.want 2 _ 35 false rfl rfl hg_
              have hx_ := hk_.ext
              clear hk_
              exact flow_skip rfl hy_ (by decide) trivial
            refine allFrom_cons ?_ ?_
            · intro a_ w_ hk_
              have hg_ : a_.eval (.tmp 35) = .bool false := hk_.got 2 35 _ (by kernel_rfl) rfl rfl
              have hy_ := hk_.want 2 _ 35 false rfl rfl hg_
              have hx_ := hk_.ext
              clear hk_
              exact flow_skip rfl hy_ (by decide) trivial
            refine allFrom_cons ?_ ?_
            · intro a_ w_ hk_
              have hg_ : a_.eval (.tmp 35) = .bool false := hk_.got 2 35 _ (by kernel_rfl) rfl rfl
              have hy_ := hk_.want 2 _ 35 false rfl rfl hg_
              have hx_ := hk_.ext
              clear hk_
              exact flow_skip rfl hy_ (by decide) trivial
            refine allFrom_cons ?_ ?_
            · intro a_ w_ hk_
              have hg_ : a_.eval (.tmp 35) = .bool false := hk_.got 2 35 _ (by kernel_rfl) rfl rfl
              have hy_ := hk_.want 2 _ 35 false rfl rfl hg_
              have hx_ := hk_.ext
              clear hk_
              exact flow_skip rfl hy_ (by decide) trivial
            refine allFrom_cons ?_ ?_
            · intro a_ w_ hk_
              have h4 : a_.eval (.tmp 4) = .slice (some ⟨g4, 0, none⟩) n p4 := hk_.old 4 (by kernel_rfl)
              have hg_ : a_.eval (.tmp 35) = .bool false := hk_.got 2 35 _ (by kernel_rfl) rfl rfl
              have hy_ := hk_.want 2 _ 35 false rfl rfl hg_
              have hx_ := hk_.ext
              clear hk_
              exact flow_skip rfl hy_ (by decide) trivial
            refine allFrom_cons ?_ ?_
            · intro a_ w_ hk_
              have h6 : a_.eval (.tmp 6) = .int .i64 (n : Int) := hk_.old 6 (by kernel_rfl)
              have hg_ : a_.eval (.tmp 35) = .bool false := hk_.got 2 35 _ (by kernel_rfl) rfl rfl
              have hy_ := hk_.want 2 _ 35 false rfl rfl hg_
              have hx_ := hk_.ext
              clear hk_
              exact flow_skip rfl hy_ (by decide) trivial
            refine allFrom_cons ?_ ?_
            · intro a_ w_ hk_
              have hg_ : a_.eval (.tmp 35) = .bool false := hk_.got 2 35 _ (by kernel_rfl) rfl rfl
              have hy_ := hk_.want 2 _ 35 false rfl rfl hg_
              have hx_ := hk_.ext
              clear hk_
              exact flow_skip rfl hy_ (by decide) trivial
            refine allFrom_cons ?_ ?_
            · intro a_ w_ hk_
              have hg_ : a_.eval (.tmp 35) = .bool false := hk_.got 2 35 _ (by kernel_rfl) rfl rfl
              have hy_ := hk_.want 2 _ 35 false rfl rfl hg_
              have hx_ := hk_.ext
              clear hk_
              exact flow_skip rfl hy_ (by decide) trivial
            refine allFrom_cons ?_ ?_
            · intro a_ w_ hk_
              have hg_ : a_.eval (.tmp 35) = .bool false := hk_.got 2 35 _ (by kernel_rfl) rfl rfl
              have hy_ := hk_.want 2 _ 35 false rfl rfl hg_
              have hx_ := hk_.ext
              clear hk_
              exact flow_skip rfl hy_ (by decide) trivial
            refine allFrom_cons ?_ ?_
            · intro a_ w_ hk_
              have hg_ : a_.eval (.tmp 35) = .bool false := hk_.got 2 35 _ (by kernel_rfl) rfl rfl
              have hy_ := hk_.want 2 _ 35 false rfl rfl hg_
              have hx_ := hk_.ext
              clear hk_
              exact flow_skip rfl hy_ (by decide) trivial
            refine allFrom_cons ?_ ?_
            · intro a_ w_ hk_
              have h35 : a_.eval (.tmp 35) = (.bool false) := hk_.got 2 35 _ (by kernel_rfl) rfl rfl
              have hx_ := hk_.ext
              clear hk_
              refine flow_plain rfl ?_
              exact gives_pick rfl h35 ⟨Below.refl _ _, rfl⟩
            exact allFrom_nil
          intro f_ w_ hx_ hf_
          have h33 : f_ 33 = (.int .i64 (n : Int)) := hf_ 0 33 _ (by decide) rfl rfl
          have h34 : f_ 34 = (.bool false) := hf_ 1 34 _ (by decide) rfl rfl
          have h35 : f_ 35 = (.bool false) := hf_ 2 35 _ (by decide) rfl rfl
          have h47 : f_ 47 = (.bool false) := hf_ 14 47 _ (by decide) rfl rfl
          simp only [mix, List.drop_succ_cons, List.drop_zero, h33, h34, h35, h47]
          clear h33 h34 h35 h47
          clear hf_
          go_wp2_with fail
          go_roundw
          case rel => exact ⟨i + 1, by omega, by go_num, by rw [← HZ.out, ← HF.out]; have hn := HRN.out; subst hn; exact own_keep ho3 hx_, by rw [← HZ.out, ← HF.out]; have hn := HRN.out; subst hn; exact own_keep ho4 hx_, hbq.trans (hx_.mono hbq.size)⟩
          case measure => simp [intOf]; omega
        | cons q' r' =>
          obtain ⟨s', h'⟩ := q'
          have hhl := hk2 _ (List.mem_cons_self ..)
          have hhl' := hk2 _ (List.mem_cons_of_mem _ (List.mem_cons_self ..))
          have hr32 : ∀ q ∈ r', q.2.length = 32 := fun q hq => hk2 q (List.mem_cons_of_mem _ (List.mem_cons_of_mem _ hq))
          simp only at hhl hhl'
          have hz3 : s + (s' + sizeS r') = i + 1 := by rw [← hz2, sizeS_cons, sizeS_cons]
          obtain ⟨k, hk⟩ : ∃ k, k = r'.length := ⟨_, rfl⟩
          obtain ⟨n1, hn1⟩ : ∃ n1, n1 = k + 1 := ⟨_, rfl⟩
          have hnk : n = k + 2 := by rw [← hrn, List.length_cons, hk]
          have ht3 := own_take ho3 (k := k) (by omega)
          have ht4 := own_take ho4 (k := k) (by omega)
          have e3 : (hsS ((s, h) :: (s', h') :: r')).take (k * 32) = hsS r' := by
            rw [hsS_cons, List.take_append_of_le_length (by rw [hsS_len _ (fun q hq => hk2 q (List.mem_cons_of_mem _ hq)), List.length_cons]; omega), hk]
            exact hsS_take (s', h') r' hr32
          have e4 : (nsS ((s, h) :: (s', h') :: r')).take (k * 1) = nsS r' := by
            rw [nsS_cons, List.take_append_of_le_length (by rw [nsS_len, List.length_cons]; omega), hk]
            exact nsS_take (s', h') r'
          rw [e3] at ht3
          rw [e4] at ht4
          have c4 : ∀ j v, (nsS ((s, h) :: (s', h') :: r'))[j]? = some v → wq.cell? ⟨g4, j, none⟩ = some v := by
            intro j v hv
            rcases own_rd ho4 with h0 | ⟨b', off', he, _, hc'⟩
            · rw [h0] at hv; cases hv
            · injection he with he
              injection he with e1 e2
              subst e1 e2
              have := hc' j v hv
              rwa [Nat.zero_add] at this
          have cs1 : wq.cell? ⟨g4, n1, none⟩ = some (.int .i64 (s : Int)) := c4 _ _ (by
            rw [nsS_cons, nsS_cons, List.getElem?_append_right (by rw [List.length_append, nsS_len]; simp; omega), List.length_append, nsS_len, hn1, hk]; simp)
          have cs2 : wq.cell? ⟨g4, k, none⟩ = some (.int .i64 (s' : Int)) := c4 _ _ (by
            rw [nsS_cons, nsS_cons, List.append_assoc, List.getElem?_append_right (by rw [nsS_len]; omega), nsS_len, hk]; simp)
          have hrow := own_rd ho3
          have h32s : ∀ x ∈ (((s, h) :: (s', h') :: r').map (·.2)).reverse, x.length = 32 := by
            intro x hx
            rw [List.mem_reverse, List.mem_map] at hx
            obtain ⟨q, hq, rfl⟩ := hx
            exact hk2 q hq
          have hlen2 : (((s, h) :: (s', h') :: r').map (·.2)).reverse.length = k + 2 := by simp [hk]
          have ch1 := rd_hash hrow h32s n1 (by omega)
          have ch2 := rd_hash hrow h32s k (by omega)
          have g1 : (((s, h) :: (s', h') :: r').map (·.2)).reverse[n1]'(by omega) = h := by
            rw [List.getElem_reverse]
            simp only [List.length_map, List.length_cons, ← hk, hn1, show k + 1 + 1 - 1 - (k + 1) = 0 by omega]
            rfl
          have g2' : (((s, h) :: (s', h') :: r').map (·.2)).reverse[k]'(by omega) = h' := by
            rw [List.getElem_reverse]
            simp only [List.length_map, List.length_cons, ← hk, show k + 1 + 1 - 1 - k = 1 by omega]
            rfl
          rw [g1] at ch1
          rw [g2'] at ch2
          obtain ⟨_, ch1⟩ := ch1
          obtain ⟨_, ch2⟩ := ch2
          have HF := hid hf
          have HZ3 := hid hz3
          have HK := hid hk
          have HN1 := hid hn1
          have HNK := hid hnk
          have hkn : k < n1 := by omega
          have hnn : n1 < n := by omega
          have hkn2 : k < n := by omega
          have hnn1 : n ≤ n1 + 1 := by omega
          have hnk1 : n1 ≤ k + 1 := by omega
          have HK2 := hid hk2
          have hs20 : s ≤ 20 := by omega
          have hs20' : s' ≤ 20 := by omega
          clear e3 e4 c4 h32s hlen2 g1 g2' hrow hf hz3 hz2 hk hn1 hnk hrn hk2
          -- <<A
          by_cases hss : s = s'
          · subst hss
            go_wp2_with fail
            refine wp_flow (by kernel_rfl) [0, 1, 3, 7, 7, 23, 63, 127, 7, 7, 519, 1799, 3847, 8191, 16383] 15 [false, false, false, false, false, false, false, false, false, false, false, false, false, false, false, false, false, false, false, false, false, false, false, false, false, false, false, false, false, false, false, false, false, true, true, true, true, true, true, true, true, true, true, true, true, true, true, true] (by kernel_rfl) (by decide) (by kernel_rfl) [FP.eq (.int .i64 (n : Int)), FP.eq (.bool true), FP.eq (.bool true), FP.eq (.slice (some ⟨g4, 0, none⟩) n p4), FP.eq (.int .i64 (n : Int)), FP.eq (.int .i64 (n1 : Int)), FP.eq (.pointer (some ⟨g4, n1, none⟩)), FP.eq (.int .i64 (s : Int)), FP.eq (.slice (some ⟨g4, 0, none⟩) n p4), FP.eq (.int .i64 (n : Int)), FP.eq (.int .i64 (k : Int)), FP.eq (.pointer (some ⟨g4, k, none⟩)), FP.eq (.int .i64 (s : Int)), FP.eq (.bool true), FP.eq (.bool true)] ?_ ?_
            · refine allFrom_cons ?_ ?_
              · intro a_ w_ hk_
                have h6 : a_.eval (.tmp 6) = .int .i64 (n : Int) := hk_.old 6 (by kernel_rfl)
                have hx_ := hk_.ext
                clear hk_
                refine flow_plain rfl ?_
                exact gives_move rfl ⟨Below.refl _ _, h6⟩
              refine allFrom_cons ?_ ?_
              · intro a_ w_ hk_
                have h33 : a_.eval (.tmp 33) = (.int .i64 (n : Int)) := hk_.got 0 33 _ (by kernel_rfl) rfl rfl
                have hx_ := hk_.ext
                clear hk_
                refine flow_plain rfl ?_
                unfold gives
                have hc_ : ∀ v, a_.eval (.const v) = v := fun _ => rfl
                have hn_ : ∀ f, a_.eval (.func f) = .func (.func f) #[] #[] := fun _ => rfl
                generalize a_.eval = ρ_ at *
                go_simp
                exact ⟨Below.refl _ _, congrArg Value.bool (decide_eq_true (by omega))⟩
              refine allFrom_cons ?_ ?_
              · intro a_ w_ hk_
                have h34 : a_.eval (.tmp 34) = (.bool true) := hk_.got 1 34 _ (by kernel_rfl) rfl rfl
                have hx_ := hk_.ext
                clear hk_
                refine flow_plain rfl ?_
                exact gives_move rfl ⟨Below.refl _ _, h34⟩
              refine allFrom_cons ?_ ?_
              · intro a_ w_ hk_
                have h4 : a_.eval (.tmp 4) = .slice (some ⟨g4, 0, none⟩) n p4 := hk_.old 4 (by kernel_rfl)
                have hg_ : a_.eval (.tmp 35) = .bool true := hk_.got 2 35 _ (by kernel_rfl) rfl rfl
                have hy_ := hk_.want 2 _ 35 true rfl rfl hg_
                have hx_ := hk_.ext
                clear hk_
                refine flow_want rfl hy_ ?_
                exact gives_move rfl ⟨Below.refl _ _, h4⟩
              refine allFrom_cons ?_ ?_
              · intro a_ w_ hk_
                have h6 : a_.eval (.tmp 6) = .int .i64 (n : Int) := hk_.old 6 (by kernel_rfl)
                have hg_ : a_.eval (.tmp 35) = .bool true := hk_.got 2 35 _ (by kernel_rfl) rfl rfl
                have hy_ := hk_.want 2 _ 35 true rfl rfl hg_
                have hx_ := hk_.ext
                clear hk_
                refine flow_want rfl hy_ ?_
                exact gives_move rfl ⟨Below.refl _ _, h6⟩
              refine allFrom_cons ?_ ?_
              · intro a_ w_ hk_
                have h37 : a_.eval (.tmp 37) = (.int .i64 (n : Int)) := hk_.got 4 37 _ (by kernel_rfl) rfl rfl
                have hg_ : a_.eval (.tmp 35) = .bool true := hk_.got 2 35 _ (by kernel_rfl) rfl rfl
                have hy_ := hk_.want 2 _ 35 true rfl rfl hg_
                have hx_ := hk_.ext
                clear hk_
                refine flow_want rfl hy_ ?_
                unfold gives
                have hc_ : ∀ v, a_.eval (.const v) = v := fun _ => rfl
                have hn_ : ∀ f, a_.eval (.func f) = .func (.func f) #[] #[] := fun _ => rfl
                clear hy_ hg_
                generalize a_.eval = ρ_ at *
                go_simp
                exact ⟨Below.refl _ _, congrArg (Value.int _) ((wr_i64 _ (by omega) (by omega)).trans (by omega))⟩
              refine allFrom_cons ?_ ?_
              · intro a_ w_ hk_
                have h36 : a_.eval (.tmp 36) = (.slice (some ⟨g4, 0, none⟩) n p4) := hk_.got 3 36 _ (by kernel_rfl) rfl rfl
                have h38 : a_.eval (.tmp 38) = (.int .i64 (n1 : Int)) := hk_.got 5 38 _ (by kernel_rfl) rfl rfl
                have hg_ : a_.eval (.tmp 35) = .bool true := hk_.got 2 35 _ (by kernel_rfl) rfl rfl
                have hy_ := hk_.want 2 _ 35 true rfl rfl hg_
                have hx_ := hk_.ext
                clear hk_
                refine flow_want rfl hy_ ?_
                unfold gives
                have hc_ : ∀ v, a_.eval (.const v) = v := fun _ => rfl
                have hn_ : ∀ f, a_.eval (.func f) = .func (.func f) #[] #[] := fun _ => rfl
                clear hy_ hg_
                generalize a_.eval = ρ_ at *
                go_simp
                exact ⟨Below.refl _ _, rfl⟩
              refine allFrom_cons ?_ ?_
              · intro a_ w_ hk_
                have h39 : a_.eval (.tmp 39) = (.pointer (some ⟨g4, n1, none⟩)) := hk_.got 6 39 _ (by kernel_rfl) rfl rfl
                have hg_ : a_.eval (.tmp 35) = .bool true := hk_.got 2 35 _ (by kernel_rfl) rfl rfl
                have hy_ := hk_.want 2 _ 35 true rfl rfl hg_
                have hx_ := hk_.ext
                clear hk_
                refine flow_want rfl hy_ ?_
                unfold gives
                have hc_ : ∀ v, a_.eval (.const v) = v := fun _ => rfl
                have hn_ : ∀ f, a_.eval (.func f) = .func (.func f) #[] #[] := fun _ => rfl
                clear hy_ hg_
                have hcell := (hx_.cell (p := ⟨g4, n1, none⟩) hg4').trans cs1
                generalize a_.eval = ρ_ at *
                go_simp
                exact ⟨Below.refl _ _, rfl⟩
              refine allFrom_cons ?_ ?_
              · intro a_ w_ hk_
                have h4 : a_.eval (.tmp 4) = .slice (some ⟨g4, 0, none⟩) n p4 := hk_.old 4 (by kernel_rfl)
                have hg_ : a_.eval (.tmp 35) = .bool true := hk_.got 2 35 _ (by kernel_rfl) rfl rfl
                have hy_ := hk_.want 2 _ 35 true rfl rfl hg_
                have hx_ := hk_.ext
                clear hk_
                refine flow_want rfl hy_ ?_
                exact gives_move rfl ⟨Below.refl _ _, h4⟩
              refine allFrom_cons ?_ ?_
              · intro a_ w_ hk_
                have h6 : a_.eval (.tmp 6) = .int .i64 (n : Int) := hk_.old 6 (by kernel_rfl)
                have hg_ : a_.eval (.tmp 35) = .bool true := hk_.got 2 35 _ (by kernel_rfl) rfl rfl
                have hy_ := hk_.want 2 _ 35 true rfl rfl hg_
                have hx_ := hk_.ext
                clear hk_
                refine flow_want rfl hy_ ?_
                exact gives_move rfl ⟨Below.refl _ _, h6⟩
              refine allFrom_cons ?_ ?_
              · intro a_ w_ hk_
                have h42 : a_.eval (.tmp 42) = (.int .i64 (n : Int)) := hk_.got 9 42 _ (by kernel_rfl) rfl rfl
                have hg_ : a_.eval (.tmp 35) = .bool true := hk_.got 2 35 _ (by kernel_rfl) rfl rfl
                have hy_ := hk_.want 2 _ 35 true rfl rfl hg_
                have hx_ := hk_.ext
                clear hk_
                refine flow_want rfl hy_ ?_
                unfold gives
                have hc_ : ∀ v, a_.eval (.const v) = v := fun _ => rfl
                have hn_ : ∀ f, a_.eval (.func f) = .func (.func f) #[] #[] := fun _ => rfl
                clear hy_ hg_
                generalize a_.eval = ρ_ at *
                go_simp
                exact ⟨Below.refl _ _, congrArg (Value.int _) ((wr_i64 _ (by omega) (by omega)).trans (by omega))⟩
              refine allFrom_cons ?_ ?_
              · intro a_ w_ hk_
                have h41 : a_.eval (.tmp 41) = (.slice (some ⟨g4, 0, none⟩) n p4) := hk_.got 8 41 _ (by kernel_rfl) rfl rfl
                have h43 : a_.eval (.tmp 43) = (.int .i64 (k : Int)) := hk_.got 10 43 _ (by kernel_rfl) rfl rfl
                have hg_ : a_.eval (.tmp 35) = .bool true := hk_.got 2 35 _ (by kernel_rfl) rfl rfl
                have hy_ := hk_.want 2 _ 35 true rfl rfl hg_
                have hx_ := hk_.ext
                clear hk_
                refine flow_want rfl hy_ ?_
                unfold gives
                have hc_ : ∀ v, a_.eval (.const v) = v := fun _ => rfl
                have hn_ : ∀ f, a_.eval (.func f) = .func (.func f) #[] #[] := fun _ => rfl
                clear hy_ hg_
                generalize a_.eval = ρ_ at *
                go_simp
                exact ⟨Below.refl _ _, rfl⟩
              refine allFrom_cons ?_ ?_
              · intro a_ w_ hk_
                have h44 : a_.eval (.tmp 44) = (.pointer (some ⟨g4, k, none⟩)) := hk_.got 11 44 _ (by kernel_rfl) rfl rfl
                have hg_ : a_.eval (.tmp 35) = .bool true := hk_.got 2 35 _ (by kernel_rfl) rfl rfl
                have hy_ := hk_.want 2 _ 35 true rfl rfl hg_
                have hx_ := hk_.ext
                clear hk_
                refine flow_want rfl hy_ ?_
                unfold gives
                have hc_ : ∀ v, a_.eval (.const v) = v := fun _ => rfl
                have hn_ : ∀ f, a_.eval (.func f) = .func (.func f) #[] #[] := fun _ => rfl
                clear hy_ hg_
                have hcell := (hx_.cell (p := ⟨g4, k, none⟩) hg4').trans cs2
                generalize a_.eval = ρ_ at *
                go_simp
                exact ⟨Below.refl _ _, rfl⟩
              refine allFrom_cons ?_ ?_
              · intro a_ w_ hk_
                have h40 : a_.eval (.tmp 40) = (.int .i64 (s : Int)) := hk_.got 7 40 _ (by kernel_rfl) rfl rfl
                have h45 : a_.eval (.tmp 45) = (.int .i64 (s : Int)) := hk_.got 12 45 _ (by kernel_rfl) rfl rfl
                have hg_ : a_.eval (.tmp 35) = .bool true := hk_.got 2 35 _ (by kernel_rfl) rfl rfl
                have hy_ := hk_.want 2 _ 35 true rfl rfl hg_
                have hx_ := hk_.ext
                clear hk_
                refine flow_want rfl hy_ ?_
                unfold gives
                have hc_ : ∀ v, a_.eval (.const v) = v := fun _ => rfl
                have hn_ : ∀ f, a_.eval (.func f) = .func (.func f) #[] #[] := fun _ => rfl
                clear hy_ hg_
                generalize a_.eval = ρ_ at *
                go_simp
                exact ⟨Below.refl _ _, rfl⟩
              refine allFrom_cons ?_ ?_
              · intro a_ w_ hk_
                have h35 : a_.eval (.tmp 35) = (.bool true) := hk_.got 2 35 _ (by kernel_rfl) rfl rfl
                have h46 : a_.eval (.tmp 46) = (.bool true) := hk_.got 13 46 _ (by kernel_rfl) rfl rfl
                have hx_ := hk_.ext
                clear hk_
                refine flow_plain rfl ?_
                exact gives_pick rfl h35 ⟨Below.refl _ _, h46⟩
              exact allFrom_nil
            intro f_ w_ hx_ hf_
            have h33 : f_ 33 = (.int .i64 (n : Int)) := hf_ 0 33 _ (by decide) rfl rfl
            have h34 : f_ 34 = (.bool true) := hf_ 1 34 _ (by decide) rfl rfl
            have h35 : f_ 35 = (.bool true) := hf_ 2 35 _ (by decide) rfl rfl
            have h36 : f_ 36 = (.slice (some ⟨g4, 0, none⟩) n p4) := hf_ 3 36 _ (by decide) rfl rfl
            have h37 : f_ 37 = (.int .i64 (n : Int)) := hf_ 4 37 _ (by decide) rfl rfl
            have h38 : f_ 38 = (.int .i64 (n1 : Int)) := hf_ 5 38 _ (by decide) rfl rfl
            have h39 : f_ 39 = (.pointer (some ⟨g4, n1, none⟩)) := hf_ 6 39 _ (by decide) rfl rfl
            have h40 : f_ 40 = (.int .i64 (s : Int)) := hf_ 7 40 _ (by decide) rfl rfl
            have h41 : f_ 41 = (.slice (some ⟨g4, 0, none⟩) n p4) := hf_ 8 41 _ (by decide) rfl rfl
            have h42 : f_ 42 = (.int .i64 (n : Int)) := hf_ 9 42 _ (by decide) rfl rfl
            have h43 : f_ 43 = (.int .i64 (k : Int)) := hf_ 10 43 _ (by decide) rfl rfl
            have h44 : f_ 44 = (.pointer (some ⟨g4, k, none⟩)) := hf_ 11 44 _ (by decide) rfl rfl
            have h45 : f_ 45 = (.int .i64 (s : Int)) := hf_ 12 45 _ (by decide) rfl rfl
            have h46 : f_ 46 = (.bool true) := hf_ 13 46 _ (by decide) rfl rfl
            have h47 : f_ 47 = (.bool true) := hf_ 14 47 _ (by decide) rfl rfl
            simp only [mix, List.drop_succ_cons, List.drop_zero, h33, h34, h35, h36, h37, h38, h39, h40, h41, h42, h43, h44, h45, h46, h47]
            clear h33 h34 h35 h36 h37 h38 h39 h40 h41 h42 h43 h44 h45 h46 h47
            clear hf_
            rename World => wa
            have hbA := hbq.trans (hx_.mono hbq.size)
            have cs1a := (hx_.cell (p := ⟨g4, n1, none⟩) hg4').trans cs1
            have ch1a := fun j v hv => (hx_.cell (p := ⟨g3, 0 + n1 * 32 + j, none⟩) hg3').trans (ch1 j v hv)
            have ch2a := fun j v hv => (hx_.cell (p := ⟨g3, 0 + k * 32 + j, none⟩) hg3').trans (ch2 j v hv)
            have ht3a := own_keep ht3 hx_
            have ht4a := own_keep ht4 hx_
            have hg3a : g3 < wa.heap.size := Nat.lt_of_lt_of_le hg3' hx_.size
            have hg4a : g4 < wa.heap.size := Nat.lt_of_lt_of_le hg4' hx_.size
            have hah := aggHL hhl
            have hah' := aggHL hhl'
            clear hx_ hbq ht3 ht4 cs1 cs2 ch1 ch2 ho3 ho4
            have HN2 := hid (fun w' => rNode_any w' hhl' hhl)
            have hX32 := shaL_len (1 :: (h' ++ h))
            obtain ⟨X, hX⟩ : ∃ X, X = shaL (1 :: (h' ++ h)) := ⟨_, rfl⟩
            rw [← hX] at HN2 hX32
            have HX := hid (show X = nodeL h' h from hX)
            clear hX
            have HCH1 := hid ch1a
            have HCH2 := hid ch2a
            have HCS := hid cs1a
            clear ch1a ch2a cs1a
            go_wp2_with fail
            refine wp_flow (by kernel_rfl) [0, 0, 2, 7, 15, 0, 0, 64, 224, 480, 1023, 0, 4095] 12 [false, false, false, false, false, false, false, true, false, false, false, false, false, false, false, false, false, false, false, false, false, false, false, false, false, false, false, false, false, false, false, false, false, false, false, false, false, false, false, false, false, false, false, false, false, false, false, false, false, false, true, true, true, true, true, true, true, true, true, true, true] (by kernel_rfl) (by decide) (by kernel_rfl) [FP.eq (.slice (some ⟨g3, 0, none⟩) n p3), FP.eq (.int .i64 (n : Int)), FP.eq (.int .i64 (k : Int)), FP.eq (.pointer (some ⟨g3, 0 + k * 32, none⟩)), FP.eq (.agg (h'.map cb).toArray), FP.eq (.slice (some ⟨g3, 0, none⟩) n p3), FP.eq (.int .i64 (n : Int)), FP.eq (.int .i64 (n1 : Int)), FP.eq (.pointer (some ⟨g3, 0 + n1 * 32, none⟩)), FP.eq (.agg (h.map cb).toArray), FP.eq (.agg (X.map cb).toArray), FP.new wa.heap.size 37 (Value.agg (List.replicate 32 (cb 0)).toArray).cells] ?_ ?_
            · refine allFrom_cons ?_ ?_
              · intro a_ w_ hk_
                have h3 : a_.eval (.tmp 3) = .slice (some ⟨g3, 0, none⟩) n p3 := hk_.old 3 (by kernel_rfl)
                have hx_ := hk_.ext
                clear hk_
                refine flow_plain rfl ?_
                exact gives_move rfl ⟨Below.refl _ _, h3⟩
              refine allFrom_cons ?_ ?_
              · intro a_ w_ hk_
                have h6 : a_.eval (.tmp 6) = .int .i64 (n : Int) := hk_.old 6 (by kernel_rfl)
                have hx_ := hk_.ext
                clear hk_
                refine flow_plain rfl ?_
                exact gives_move rfl ⟨Below.refl _ _, h6⟩
              refine allFrom_cons ?_ ?_
              · intro a_ w_ hk_
                have h51 : a_.eval (.tmp 51) = (.int .i64 (n : Int)) := hk_.got 1 51 _ (by kernel_rfl) rfl rfl
                have hx_ := hk_.ext
                clear hk_
                refine flow_plain rfl ?_
                unfold gives
                have hc_ : ∀ v, a_.eval (.const v) = v := fun _ => rfl
                have hn_ : ∀ f, a_.eval (.func f) = .func (.func f) #[] #[] := fun _ => rfl
                generalize a_.eval = ρ_ at *
                go_simp
                exact ⟨Below.refl _ _, congrArg (Value.int _) ((wr_i64 _ (by omega) (by omega)).trans (by omega))⟩
              refine allFrom_cons ?_ ?_
              · intro a_ w_ hk_
                have h50 : a_.eval (.tmp 50) = (.slice (some ⟨g3, 0, none⟩) n p3) := hk_.got 0 50 _ (by kernel_rfl) rfl rfl
                have h52 : a_.eval (.tmp 52) = (.int .i64 (k : Int)) := hk_.got 2 52 _ (by kernel_rfl) rfl rfl
                have hx_ := hk_.ext
                clear hk_
                refine flow_plain rfl ?_
                unfold gives
                have hc_ : ∀ v, a_.eval (.const v) = v := fun _ => rfl
                have hn_ : ∀ f, a_.eval (.func f) = .func (.func f) #[] #[] := fun _ => rfl
                generalize a_.eval = ρ_ at *
                go_simp
                exact ⟨Below.refl _ _, rfl⟩
              refine allFrom_cons ?_ ?_
              · intro a_ w_ hk_
                have h53 : a_.eval (.tmp 53) = (.pointer (some ⟨g3, 0 + k * 32, none⟩)) := hk_.got 3 53 _ (by kernel_rfl) rfl rfl
                have hx_ := hk_.ext
                clear hk_
                refine flow_plain rfl ?_
                exact gives_ldC rfl h53 hah' (fun i v hv => (hx_.cell (p := ⟨g3, 0 + k * 32 + i, none⟩) hg3a).trans (HCH2.out i v hv)) ⟨Below.refl _ _, rfl⟩
              refine allFrom_cons ?_ ?_
              · intro a_ w_ hk_
                have h3 : a_.eval (.tmp 3) = .slice (some ⟨g3, 0, none⟩) n p3 := hk_.old 3 (by kernel_rfl)
                have hx_ := hk_.ext
                clear hk_
                refine flow_plain rfl ?_
                exact gives_move rfl ⟨Below.refl _ _, h3⟩
              refine allFrom_cons ?_ ?_
              · intro a_ w_ hk_
                have h6 : a_.eval (.tmp 6) = .int .i64 (n : Int) := hk_.old 6 (by kernel_rfl)
                have hx_ := hk_.ext
                clear hk_
                refine flow_plain rfl ?_
                exact gives_move rfl ⟨Below.refl _ _, h6⟩
              refine allFrom_cons ?_ ?_
              · intro a_ w_ hk_
                have h56 : a_.eval (.tmp 56) = (.int .i64 (n : Int)) := hk_.got 6 56 _ (by kernel_rfl) rfl rfl
                have hx_ := hk_.ext
                clear hk_
                refine flow_plain rfl ?_
                unfold gives
                have hc_ : ∀ v, a_.eval (.const v) = v := fun _ => rfl
                have hn_ : ∀ f, a_.eval (.func f) = .func (.func f) #[] #[] := fun _ => rfl
                generalize a_.eval = ρ_ at *
                go_simp
                exact ⟨Below.refl _ _, congrArg (Value.int _) ((wr_i64 _ (by omega) (by omega)).trans (by omega))⟩
              refine allFrom_cons ?_ ?_
              · intro a_ w_ hk_
                have h55 : a_.eval (.tmp 55) = (.slice (some ⟨g3, 0, none⟩) n p3) := hk_.got 5 55 _ (by kernel_rfl) rfl rfl
                have h57 : a_.eval (.tmp 57) = (.int .i64 (n1 : Int)) := hk_.got 7 57 _ (by kernel_rfl) rfl rfl
                have hx_ := hk_.ext
                clear hk_
                refine flow_plain rfl ?_
                unfold gives
                have hc_ : ∀ v, a_.eval (.const v) = v := fun _ => rfl
                have hn_ : ∀ f, a_.eval (.func f) = .func (.func f) #[] #[] := fun _ => rfl
                generalize a_.eval = ρ_ at *
                go_simp
                exact ⟨Below.refl _ _, rfl⟩
              refine allFrom_cons ?_ ?_
              · intro a_ w_ hk_
                have h58 : a_.eval (.tmp 58) = (.pointer (some ⟨g3, 0 + n1 * 32, none⟩)) := hk_.got 8 58 _ (by kernel_rfl) rfl rfl
                have hx_ := hk_.ext
                clear hk_
                refine flow_plain rfl ?_
                exact gives_ldC rfl h58 hah (fun i v hv => (hx_.cell (p := ⟨g3, 0 + n1 * 32 + i, none⟩) hg3a).trans (HCH1.out i v hv)) ⟨Below.refl _ _, rfl⟩
              refine allFrom_cons ?_ ?_
              · intro a_ w_ hk_
                have h54 : a_.eval (.tmp 54) = (.agg (h'.map cb).toArray) := hk_.got 4 54 _ (by kernel_rfl) rfl rfl
                have h59 : a_.eval (.tmp 59) = (.agg (h.map cb).toArray) := hk_.got 9 59 _ (by kernel_rfl) rfl rfl
                have hx_ := hk_.ext
                clear hk_
                refine flow_plain rfl ?_
                unfold gives
                have hc_ : ∀ v, a_.eval (.const v) = v := fun _ => rfl
                have hn_ : ∀ f, a_.eval (.func f) = .func (.func f) #[] #[] := fun _ => rfl
                generalize a_.eval = ρ_ at *
                go_simp
                exact (HN2.out w_).mono fun e w' hh => ⟨_, hh.1, hh.2, rfl⟩
              refine allFrom_cons ?_ ?_
              · intro a_ w_ hk_
                have hx_ := hk_.ext
                clear hk_
                refine flow_plain rfl ?_
                exact gives_val (gives_alloc_run _ rfl zeroH) (new_new (Nat.le_trans hx_.size (Nat.le_refl _)))
              exact allFrom_nil
            intro f_ w_ hx_ hf_
            have h50 : f_ 50 = (.slice (some ⟨g3, 0, none⟩) n p3) := hf_ 0 50 _ (by decide) rfl rfl
            have h51 : f_ 51 = (.int .i64 (n : Int)) := hf_ 1 51 _ (by decide) rfl rfl
            have h52 : f_ 52 = (.int .i64 (k : Int)) := hf_ 2 52 _ (by decide) rfl rfl
            have h53 : f_ 53 = (.pointer (some ⟨g3, 0 + k * 32, none⟩)) := hf_ 3 53 _ (by decide) rfl rfl
            have h54 : f_ 54 = (.agg (h'.map cb).toArray) := hf_ 4 54 _ (by decide) rfl rfl
            have h55 : f_ 55 = (.slice (some ⟨g3, 0, none⟩) n p3) := hf_ 5 55 _ (by decide) rfl rfl
            have h56 : f_ 56 = (.int .i64 (n : Int)) := hf_ 6 56 _ (by decide) rfl rfl
            have h57 : f_ 57 = (.int .i64 (n1 : Int)) := hf_ 7 57 _ (by decide) rfl rfl
            have h58 : f_ 58 = (.pointer (some ⟨g3, 0 + n1 * 32, none⟩)) := hf_ 8 58 _ (by decide) rfl rfl
            have h59 : f_ 59 = (.agg (h.map cb).toArray) := hf_ 9 59 _ (by decide) rfl rfl
            have h60 : f_ 60 = (.agg (X.map cb).toArray) := hf_ 10 60 _ (by decide) rfl rfl
            have h7 : (FP.new wa.heap.size 37 (Value.agg (List.replicate 32 (cb 0)).toArray).cells).p (f_ 7) w_ := hf_ 11 7 _ (by decide) rfl rfl
            simp only [mix, List.drop_succ_cons, List.drop_zero, h50, h51, h52, h53, h54, h55, h56, h57, h58, h59, h60]
            clear h50 h51 h52 h53 h54 h55 h56 h57 h58 h59 h60
            clear hf_
            rename World => wb
            obtain ⟨g7, e7, hg7, hz7⟩ := h7
            rw [e7]
            clear e7
            have hbB := hbA.trans (hx_.mono hbA.size)
            have hbw7 : w2.heap.size ≤ g7 := Nat.le_trans hbA.size hg7
            have HCSb := hid ((hx_.cell (p := ⟨g4, n1, none⟩) hg4a).trans HCS.out)
            have ht3b := own_keep ht3a hx_
            have ht4b := own_keep ht4a hx_
            have hg4b : g4 < wb.heap.size := Nat.lt_of_lt_of_le hg4a hx_.size
            have hkp3 : k ≤ p3 := by omega
            have hkp4 : k ≤ p4 := by omega
            have hne37 : g7 ≠ g3 := by omega
            have hne47 : g4 ≠ g7 := by omega
            clear hx_ hbA HCS ht3a ht4a HCH1 HCH2 hah hah' HN2
            go_wp2_with ((with_reducible refine wpAtC ?_); refine wpList_store_agg rfl _ _ _ rfl _ _ rfl (X.map cb).toArray rfl (aggHS hX32) hz7 (szH hX32) (one_cbA X) ?_; intro w13 hp13; simp only [Act.put]; rw [splH hX32] at hp13)
            have hbC := hbB.trans (hp13.below hbw7)
            have HCSc := hid (show w13.cell? ⟨g4, n1, none⟩ = some (.int .i64 (s : Int)) from (cell_of_heap (hp13.oth g4 hne47) n1).trans HCSb.out)
            have ht3c := own_other ht3b hp13 (by simp [Value.ownBlock]; omega)
            have ht4c := own_other ht4b hp13 (by simp [Value.ownBlock]; omega)
            have hx7 := hp13.blk
            have hcx7 := blk_cells hx7
            have hg4c : g4 < w13.heap.size := by rw [hp13.size]; exact hg4b
            have haX := aggHL hX32
            have h63k : k + 1 ≤ maxLen := by unfold maxLen; omega
            have hby3 : (k + 1) * 32 ≤ 140737488355328 := by omega
            have hby4 : (k + 1) * 8 ≤ 140737488355328 := by omega
            have hbs13 := hbC.size
            clear hbB HCSb ht3b ht4b hp13 hz7
            refine wp_flowQ (by kernel_rfl) [0, 0, 2, 7, 0, 16, 63, 127] 6 [false, false, false, false, false, false, false, false, false, false, false, false, false, false, false, false, false, false, false, false, false, false, false, false, false, false, false, false, false, false, false, false, false, false, false, false, false, false, false, false, false, false, false, false, false, false, false, false, false, false, false, false, false, false, false, false, false, false, false, false, false, true, true, true, true, true, true, true] (by kernel_rfl) (by decide) (by kernel_rfl) [FP.eq (.slice (some ⟨g3, 0, none⟩) n p3), FP.eq (.int .i64 (n : Int)), FP.eq (.int .i64 (k : Int)), FP.eq (.slice (some ⟨g3, 0, none⟩) k p3), FP.eq (.agg (X.map cb).toArray), FP.sl 1 (X.map cb)] (fun v w2' => ∃ w1, Below w13.heap.size w13 w1 ∧ w1.grownBy w2' (some g3) ∧ w2'.ownsRow w2.heap.size 37 32 v (k + 1) (hsS r' ++ X.map cb)) ?_ (q_of rfl ⟨rfl, ?_⟩) ?_
            · refine allFrom_cons (stepQ_yes (by kernel_rfl) ?_) ?_
              · intro a_ w_ hk_
                have h3 : a_.eval (.tmp 3) = .slice (some ⟨g3, 0, none⟩) n p3 := hk_.old 3 (by kernel_rfl)
                have hx_ := hk_.ext
                clear hk_
                refine flow_plain rfl ?_
                exact gives_move rfl ⟨Below.refl _ _, h3⟩
              refine allFrom_cons (stepQ_yes (by kernel_rfl) ?_) ?_
              · intro a_ w_ hk_
                have h6 : a_.eval (.tmp 6) = .int .i64 (n : Int) := hk_.old 6 (by kernel_rfl)
                have hx_ := hk_.ext
                clear hk_
                refine flow_plain rfl ?_
                exact gives_move rfl ⟨Below.refl _ _, h6⟩
              refine allFrom_cons (stepQ_yes (by kernel_rfl) ?_) ?_
              · intro a_ w_ hk_
                have h62 : a_.eval (.tmp 62) = (.int .i64 (n : Int)) := hk_.got 1 62 _ (by kernel_rfl) rfl rfl
                have hx_ := hk_.ext
                clear hk_
                refine flow_plain rfl ?_
                unfold gives
                have hc_ : ∀ v, a_.eval (.const v) = v := fun _ => rfl
                have hn_ : ∀ f, a_.eval (.func f) = .func (.func f) #[] #[] := fun _ => rfl
                generalize a_.eval = ρ_ at *
                go_simp
                exact ⟨Below.refl _ _, congrArg (Value.int _) ((wr_i64 _ (by omega) (by omega)).trans (by omega))⟩
              refine allFrom_cons (stepQ_yes (by kernel_rfl) ?_) ?_
              · intro a_ w_ hk_
                have h61 : a_.eval (.tmp 61) = (.slice (some ⟨g3, 0, none⟩) n p3) := hk_.got 0 61 _ (by kernel_rfl) rfl rfl
                have h63 : a_.eval (.tmp 63) = (.int .i64 (k : Int)) := hk_.got 2 63 _ (by kernel_rfl) rfl rfl
                have hx_ := hk_.ext
                clear hk_
                refine flow_plain rfl ?_
                unfold gives
                have hc_ : ∀ v, a_.eval (.const v) = v := fun _ => rfl
                have hn_ : ∀ f, a_.eval (.func f) = .func (.func f) #[] #[] := fun _ => rfl
                generalize a_.eval = ρ_ at *
                go_simp
                exact ⟨Below.refl _ _, rfl⟩
              refine allFrom_cons (stepQ_yes (by kernel_rfl) ?_) ?_
              · intro a_ w_ hk_
                have h7 : a_.eval (.tmp 7) = .pointer (some ⟨g7, 0, none⟩) := hk_.old 7 (by kernel_rfl)
                have hx_ := hk_.ext
                clear hk_
                refine flow_plain rfl ?_
                exact gives_ldC rfl h7 haX (blk_cells (hx7.below hx_ hx7.lt)) ⟨Below.refl _ _, rfl⟩
              refine allFrom_cons (stepQ_yes (by kernel_rfl) ?_) ?_
              · intro a_ w_ hk_
                have h65 : a_.eval (.tmp 65) = (.agg (X.map cb).toArray) := hk_.got 4 65 _ (by kernel_rfl) rfl rfl
                have hx_ := hk_.ext
                clear hk_
                refine flow_plain rfl ?_
                exact gives_slice1 _ _ rfl _ h65 elHs (cells_cb hX32) (by decide) (slice_hash hX32)
              exact allFrom_nil
            · intro a_ w_ hk_
              have h64 : a_.eval (.tmp 64) = (.slice (some ⟨g3, 0, none⟩) k p3) := hk_.got 3 64 _ (by kernel_rfl) rfl rfl
              have h66 : (FP.sl 1 (X.map cb)).p (a_.eval (.tmp 66)) w_ := hk_.got 5 66 _ (by kernel_rfl) rfl rfl
              have hx_ := hk_.ext
              clear hk_
              obtain ⟨A66, c66, h66, r66⟩ := h66
              refine gives_appK _ _ _ rfl (.slice (some ⟨g3, 0, none⟩) k p3) h64 A66 1 c66 h66 elHs (own_keep ht3c hx_) r66 (len_cb hX32) (one_cb _) h63k hby3 (Nat.le_trans hbs13 hx_.size) fun v' w' hown2 hg2 _ => ?_
              exact ⟨w_, hx_, hg2, hown2⟩
            intro f_ w_ hf_ ht_
            have h61 : f_ 61 = (.slice (some ⟨g3, 0, none⟩) n p3) := (hf_ 0 61 _ (by decide) rfl rfl).elim fun _ h => h
            have h62 : f_ 62 = (.int .i64 (n : Int)) := (hf_ 1 62 _ (by decide) rfl rfl).elim fun _ h => h
            have h63 : f_ 63 = (.int .i64 (k : Int)) := (hf_ 2 63 _ (by decide) rfl rfl).elim fun _ h => h
            have h64 : f_ 64 = (.slice (some ⟨g3, 0, none⟩) k p3) := (hf_ 3 64 _ (by decide) rfl rfl).elim fun _ h => h
            have h65 : f_ 65 = (.agg (X.map cb).toArray) := (hf_ 4 65 _ (by decide) rfl rfl).elim fun _ h => h
            have ht := ht_ 67 _ rfl rfl
            clear ht_
            simp only [mix, List.drop_succ_cons, List.drop_zero, h61, h62, h63, h64, h65]
            clear h61 h62 h63 h64 h65
            clear hf_
            rename World => w14
            obtain ⟨w14', hx14, hg14, hown14⟩ := ht
            obtain ⟨A14, c14, e14, _, _, _⟩ := own_form hown14
            rw [e14] at hown14 ⊢
            clear e14
            have ht3d := own_keep ht3c hx14
            have ht4d := own_keep ht4c hx14
            have ht4e := ht4d.kept hg14 (.inr (by
              have := own_apart ht4d ht3d (by decide)
              rcases this with h0 | h0
              · cases h0
              · exact h0))
            have hbD := own_below (hbC.trans (hx14.mono hbC.size)) ht3d hg14
            have HCSd := hid (show w14.cell? ⟨g4, n1, none⟩ = some (.int .i64 (s : Int)) from (cell_of_heap (hg14.block g4 (Nat.lt_of_lt_of_le hg4c hx14.size) (by
              have := own_apart ht4d ht3d (by decide)
              rcases this with h0 | h0
              · cases h0
              · exact h0)) n1).trans ((hx14.cell (p := ⟨g4, n1, none⟩) hg4c).trans HCSc.out))
            have hg4d : g4 < w14.heap.size := Nat.lt_of_lt_of_le (Nat.lt_of_lt_of_le hg4c hx14.size) hg14.size
            have hbs14 := hbD.size
            have hcons : hsS r' ++ X.map cb = hsS ((2 * s, X) :: r') := (hsS_cons (2 * s, X) r').symm
            rw [hcons] at hown14
            have hconsn : nsS r' ++ [.int .i64 ((2 * s : Nat) : Int)] = nsS ((2 * s, X) :: r') := (nsS_cons (2 * s, X) r').symm
            have HCN := hid hconsn
            clear hcons hconsn ht3c ht4c ht3d ht4d hx14 hg14 hbC HCSc
            go_wp2_with fail
            refine wp_flowQ (by kernel_rfl) [0, 0, 2, 7, 0, 0, 32, 112, 240, 496, 1008, 2047, 4095] 11 [false, false, false, false, false, false, false, false, false, false, false, false, false, false, false, false, false, false, false, false, false, false, false, false, false, false, false, false, false, false, false, false, false, false, false, false, false, false, false, false, false, false, false, false, false, false, false, false, false, false, false, false, false, false, false, false, false, false, false, false, false, false, false, false, false, false, false, false, true, true, true, true, true, true, true, true, true, true, true, true] (by kernel_rfl) (by decide) (by kernel_rfl) [FP.eq (.slice (some ⟨g4, 0, none⟩) n p4), FP.eq (.int .i64 (n : Int)), FP.eq (.int .i64 (k : Int)), FP.eq (.slice (some ⟨g4, 0, none⟩) k p4), FP.eq (.slice (some ⟨g4, 0, none⟩) n p4), FP.eq (.int .i64 (n : Int)), FP.eq (.int .i64 (n1 : Int)), FP.eq (.pointer (some ⟨g4, n1, none⟩)), FP.eq (.int .i64 (s : Int)), FP.eq (.int .i64 ((2 * s : Nat) : Int)), FP.sl 1 [.int .i64 ((2 * s : Nat) : Int)]] (fun v w2' => ∃ w1, Below w14.heap.size w14 w1 ∧ w1.grownBy w2' (some g4) ∧ w2'.ownsRow w2.heap.size 3 1 v (k + 1) (nsS r' ++ [.int .i64 ((2 * s : Nat) : Int)])) ?_ (q_of rfl ⟨rfl, ?_⟩) ?_
            · refine allFrom_cons (stepQ_yes (by kernel_rfl) ?_) ?_
              · intro a_ w_ hk_
                have h4 : a_.eval (.tmp 4) = .slice (some ⟨g4, 0, none⟩) n p4 := hk_.old 4 (by kernel_rfl)
                have hx_ := hk_.ext
                clear hk_
                refine flow_plain rfl ?_
                exact gives_move rfl ⟨Below.refl _ _, h4⟩
              refine allFrom_cons (stepQ_yes (by kernel_rfl) ?_) ?_
              · intro a_ w_ hk_
                have h6 : a_.eval (.tmp 6) = .int .i64 (n : Int) := hk_.old 6 (by kernel_rfl)
                have hx_ := hk_.ext
                clear hk_
                refine flow_plain rfl ?_
                exact gives_move rfl ⟨Below.refl _ _, h6⟩
              refine allFrom_cons (stepQ_yes (by kernel_rfl) ?_) ?_
              · intro a_ w_ hk_
                have h69 : a_.eval (.tmp 69) = (.int .i64 (n : Int)) := hk_.got 1 69 _ (by kernel_rfl) rfl rfl
                have hx_ := hk_.ext
                clear hk_
                refine flow_plain rfl ?_
                unfold gives
                have hc_ : ∀ v, a_.eval (.const v) = v := fun _ => rfl
                have hn_ : ∀ f, a_.eval (.func f) = .func (.func f) #[] #[] := fun _ => rfl
                generalize a_.eval = ρ_ at *
                go_simp
                exact ⟨Below.refl _ _, congrArg (Value.int _) ((wr_i64 _ (by omega) (by omega)).trans (by omega))⟩
              refine allFrom_cons (stepQ_yes (by kernel_rfl) ?_) ?_
              · intro a_ w_ hk_
                have h68 : a_.eval (.tmp 68) = (.slice (some ⟨g4, 0, none⟩) n p4) := hk_.got 0 68 _ (by kernel_rfl) rfl rfl
                have h70 : a_.eval (.tmp 70) = (.int .i64 (k : Int)) := hk_.got 2 70 _ (by kernel_rfl) rfl rfl
                have hx_ := hk_.ext
                clear hk_
                refine flow_plain rfl ?_
                unfold gives
                have hc_ : ∀ v, a_.eval (.const v) = v := fun _ => rfl
                have hn_ : ∀ f, a_.eval (.func f) = .func (.func f) #[] #[] := fun _ => rfl
                generalize a_.eval = ρ_ at *
                go_simp
                exact ⟨Below.refl _ _, rfl⟩
              refine allFrom_cons (stepQ_yes (by kernel_rfl) ?_) ?_
              · intro a_ w_ hk_
                have h4 : a_.eval (.tmp 4) = .slice (some ⟨g4, 0, none⟩) n p4 := hk_.old 4 (by kernel_rfl)
                have hx_ := hk_.ext
                clear hk_
                refine flow_plain rfl ?_
                exact gives_move rfl ⟨Below.refl _ _, h4⟩
              refine allFrom_cons (stepQ_yes (by kernel_rfl) ?_) ?_
              · intro a_ w_ hk_
                have h6 : a_.eval (.tmp 6) = .int .i64 (n : Int) := hk_.old 6 (by kernel_rfl)
                have hx_ := hk_.ext
                clear hk_
                refine flow_plain rfl ?_
                exact gives_move rfl ⟨Below.refl _ _, h6⟩
              refine allFrom_cons (stepQ_yes (by kernel_rfl) ?_) ?_
              · intro a_ w_ hk_
                have h73 : a_.eval (.tmp 73) = (.int .i64 (n : Int)) := hk_.got 5 73 _ (by kernel_rfl) rfl rfl
                have hx_ := hk_.ext
                clear hk_
                refine flow_plain rfl ?_
                unfold gives
                have hc_ : ∀ v, a_.eval (.const v) = v := fun _ => rfl
                have hn_ : ∀ f, a_.eval (.func f) = .func (.func f) #[] #[] := fun _ => rfl
                generalize a_.eval = ρ_ at *
                go_simp
                exact ⟨Below.refl _ _, congrArg (Value.int _) ((wr_i64 _ (by omega) (by omega)).trans (by omega))⟩
              refine allFrom_cons (stepQ_yes (by kernel_rfl) ?_) ?_
              · intro a_ w_ hk_
                have h72 : a_.eval (.tmp 72) = (.slice (some ⟨g4, 0, none⟩) n p4) := hk_.got 4 72 _ (by kernel_rfl) rfl rfl
                have h74 : a_.eval (.tmp 74) = (.int .i64 (n1 : Int)) := hk_.got 6 74 _ (by kernel_rfl) rfl rfl
                have hx_ := hk_.ext
                clear hk_
                refine flow_plain rfl ?_
                unfold gives
                have hc_ : ∀ v, a_.eval (.const v) = v := fun _ => rfl
                have hn_ : ∀ f, a_.eval (.func f) = .func (.func f) #[] #[] := fun _ => rfl
                generalize a_.eval = ρ_ at *
                go_simp
                exact ⟨Below.refl _ _, rfl⟩
              refine allFrom_cons (stepQ_yes (by kernel_rfl) ?_) ?_
              · intro a_ w_ hk_
                have h75 : a_.eval (.tmp 75) = (.pointer (some ⟨g4, n1, none⟩)) := hk_.got 7 75 _ (by kernel_rfl) rfl rfl
                have hx_ := hk_.ext
                clear hk_
                refine flow_plain rfl ?_
                unfold gives
                have hc_ : ∀ v, a_.eval (.const v) = v := fun _ => rfl
                have hn_ : ∀ f, a_.eval (.func f) = .func (.func f) #[] #[] := fun _ => rfl
                have hcell := (hx_.cell (p := ⟨g4, n1, none⟩) hg4d).trans HCSd.out
                generalize a_.eval = ρ_ at *
                go_simp
                exact ⟨Below.refl _ _, rfl⟩
              refine allFrom_cons (stepQ_yes (by kernel_rfl) ?_) ?_
              · intro a_ w_ hk_
                have h76 : a_.eval (.tmp 76) = (.int .i64 (s : Int)) := hk_.got 8 76 _ (by kernel_rfl) rfl rfl
                have hx_ := hk_.ext
                clear hk_
                refine flow_plain rfl ?_
                unfold gives
                have hc_ : ∀ v, a_.eval (.const v) = v := fun _ => rfl
                have hn_ : ∀ f, a_.eval (.func f) = .func (.func f) #[] #[] := fun _ => rfl
                generalize a_.eval = ρ_ at *
                go_simp
                exact ⟨Below.refl _ _, congrArg (Value.int _) ((wr_i64 _ (by omega) (by omega)).trans (by omega))⟩
              refine allFrom_cons (stepQ_yes (by kernel_rfl) ?_) ?_
              · intro a_ w_ hk_
                have h77 : a_.eval (.tmp 77) = (.int .i64 ((2 * s : Nat) : Int)) := hk_.got 9 77 _ (by kernel_rfl) rfl rfl
                have hx_ := hk_.ext
                clear hk_
                refine flow_plain rfl ?_
                unfold gives
                have hc_ : ∀ v, a_.eval (.const v) = v := fun _ => rfl
                have hn_ : ∀ f, a_.eval (.func f) = .func (.func f) #[] #[] := fun _ => rfl
                generalize a_.eval = ρ_ at *
                go_simp
                exact sl_new rfl
              exact allFrom_nil
            · intro a_ w_ hk_
              have h71 : a_.eval (.tmp 71) = (.slice (some ⟨g4, 0, none⟩) k p4) := hk_.got 3 71 _ (by kernel_rfl) rfl rfl
              have h78 : (FP.sl 1 [.int .i64 ((2 * s : Nat) : Int)]).p (a_.eval (.tmp 78)) w_ := hk_.got 10 78 _ (by kernel_rfl) rfl rfl
              have hx_ := hk_.ext
              clear hk_
              obtain ⟨A78, c78, h78, r78⟩ := h78
              refine gives_appK _ _ _ rfl (.slice (some ⟨g4, 0, none⟩) k p4) h71 A78 1 c78 h78 elI (own_keep ht4e hx_) r78 rfl (one_nsS _ (by intro v hv; simp at hv; exact ⟨_, hv⟩)) h63k hby4 (Nat.le_trans hbs14 hx_.size) fun v' w' hown2 hg2 _ => ?_
              exact ⟨w_, hx_, hg2, hown2⟩
            intro f_ w_ hf_ ht_
            have h68 : f_ 68 = (.slice (some ⟨g4, 0, none⟩) n p4) := (hf_ 0 68 _ (by decide) rfl rfl).elim fun _ h => h
            have h69 : f_ 69 = (.int .i64 (n : Int)) := (hf_ 1 69 _ (by decide) rfl rfl).elim fun _ h => h
            have h70 : f_ 70 = (.int .i64 (k : Int)) := (hf_ 2 70 _ (by decide) rfl rfl).elim fun _ h => h
            have h71 : f_ 71 = (.slice (some ⟨g4, 0, none⟩) k p4) := (hf_ 3 71 _ (by decide) rfl rfl).elim fun _ h => h
            have h72 : f_ 72 = (.slice (some ⟨g4, 0, none⟩) n p4) := (hf_ 4 72 _ (by decide) rfl rfl).elim fun _ h => h
            have h73 : f_ 73 = (.int .i64 (n : Int)) := (hf_ 5 73 _ (by decide) rfl rfl).elim fun _ h => h
            have h74 : f_ 74 = (.int .i64 (n1 : Int)) := (hf_ 6 74 _ (by decide) rfl rfl).elim fun _ h => h
            have h75 : f_ 75 = (.pointer (some ⟨g4, n1, none⟩)) := (hf_ 7 75 _ (by decide) rfl rfl).elim fun _ h => h
            have h76 : f_ 76 = (.int .i64 (s : Int)) := (hf_ 8 76 _ (by decide) rfl rfl).elim fun _ h => h
            have h77 : f_ 77 = (.int .i64 ((2 * s : Nat) : Int)) := (hf_ 9 77 _ (by decide) rfl rfl).elim fun _ h => h
            have ht := ht_ 79 _ rfl rfl
            clear ht_
            simp only [mix, List.drop_succ_cons, List.drop_zero, h68, h69, h70, h71, h72, h73, h74, h75, h76, h77]
            clear h68 h69 h70 h71 h72 h73 h74 h75 h76 h77
            clear hf_
            rename World => w15
            obtain ⟨w15', hx15, hg15, hown15⟩ := ht
            obtain ⟨A15, c15, e15, _, _, _⟩ := own_form hown15
            rw [e15] at hown15 ⊢
            clear e15
            have hown14d := own_keep hown14 hx15
            have ht4f := own_keep ht4e hx15
            have hown14e := hown14d.kept hg15 (own_apart hown14d ht4f (by decide))
            have hbE := own_below (hbD.trans (hx15.mono hbD.size)) ht4f hg15
            rw [HCN.out] at hown15
            clear hown14 hown14d ht4e ht4f hx15 hg15 hbD HCSd HCN
            go_wp2_with fail
            go_roundw
            case rel => exact ⟨(2 * s, X), r', k + 1, by rw [HX.out, ← fin_same]; exact HF.out, by rw [sizeS_cons]; show 2 * s + _ = _; have := HZ3.out; omega, by
              intro q hq
              rcases List.mem_cons.1 hq with rfl | hq
              · exact hX32
              · exact HK2.out q (List.mem_cons_of_mem _ (List.mem_cons_of_mem _ hq)), by rw [HK.out], by omega, by go_num, hown14e, hown15, hbE⟩
            case measure => simp [intOf]; omega
          · go_wp2_with fail
            refine wp_flow (by kernel_rfl) [0, 1, 3, 7, 7, 23, 63, 127, 7, 7, 519, 1799, 3847, 8191, 16383] 15 [false, false, false, false, false, false, false, false, false, false, false, false, false, false, false, false, false, false, false, false, false, false, false, false, false, false, false, false, false, false, false, false, false, true, true, true, true, true, true, true, true, true, true, true, true, true, true, true] (by kernel_rfl) (by decide) (by kernel_rfl) [FP.eq (.int .i64 (n : Int)), FP.eq (.bool true), FP.eq (.bool true), FP.eq (.slice (some ⟨g4, 0, none⟩) n p4), FP.eq (.int .i64 (n : Int)), FP.eq (.int .i64 (n1 : Int)), FP.eq (.pointer (some ⟨g4, n1, none⟩)), FP.eq (.int .i64 (s : Int)), FP.eq (.slice (some ⟨g4, 0, none⟩) n p4), FP.eq (.int .i64 (n : Int)), FP.eq (.int .i64 (k : Int)), FP.eq (.pointer (some ⟨g4, k, none⟩)), FP.eq (.int .i64 (s' : Int)), FP.eq (.bool false), FP.eq (.bool false)] ?_ ?_
            · refine allFrom_cons ?_ ?_
              · intro a_ w_ hk_
                have h6 : a_.eval (.tmp 6) = .int .i64 (n : Int) := hk_.old 6 (by kernel_rfl)
                have hx_ := hk_.ext
                clear hk_
                refine flow_plain rfl ?_
                exact gives_move rfl ⟨Below.refl _ _, h6⟩
              refine allFrom_cons ?_ ?_
              · intro a_ w_ hk_
                have h33 : a_.eval (.tmp 33) = (.int .i64 (n : Int)) := hk_.got 0 33 _ (by kernel_rfl) rfl rfl
                have hx_ := hk_.ext
                clear hk_
                refine flow_plain rfl ?_
                unfold gives
                have hc_ : ∀ v, a_.eval (.const v) = v := fun _ => rfl
                have hn_ : ∀ f, a_.eval (.func f) = .func (.func f) #[] #[] := fun _ => rfl
                generalize a_.eval = ρ_ at *
                go_simp
                exact ⟨Below.refl _ _, congrArg Value.bool (decide_eq_true (by omega))⟩
              refine allFrom_cons ?_ ?_
              · intro a_ w_ hk_
                have h34 : a_.eval (.tmp 34) = (.bool true) := hk_.got 1 34 _ (by kernel_rfl) rfl rfl
                have hx_ := hk_.ext
                clear hk_
                refine flow_plain rfl ?_
                exact gives_move rfl ⟨Below.refl _ _, h34⟩
              refine allFrom_cons ?_ ?_
              · intro a_ w_ hk_
                have h4 : a_.eval (.tmp 4) = .slice (some ⟨g4, 0, none⟩) n p4 := hk_.old 4 (by kernel_rfl)
                have hg_ : a_.eval (.tmp 35) = .bool true := hk_.got 2 35 _ (by kernel_rfl) rfl rfl
                have hy_ := hk_.want 2 _ 35 true rfl rfl hg_
                have hx_ := hk_.ext
                clear hk_
                refine flow_want rfl hy_ ?_
                exact gives_move rfl ⟨Below.refl _ _, h4⟩
              refine allFrom_cons ?_ ?_
              · intro a_ w_ hk_
                have h6 : a_.eval (.tmp 6) = .int .i64 (n : Int) := hk_.old 6 (by kernel_rfl)
                have hg_ : a_.eval (.tmp 35) = .bool true := hk_.got 2 35 _ (by kernel_rfl) rfl rfl
                have hy_ := hk_.want 2 _ 35 true rfl rfl hg_
                have hx_ := hk_.ext
                clear hk_
                refine flow_want rfl hy_ ?_
                exact gives_move rfl ⟨Below.refl _ _, h6⟩
              refine allFrom_cons ?_ ?_
              · intro a_ w_ hk_
                have h37 : a_.eval (.tmp 37) = (.int .i64 (n : Int)) := hk_.got 4 37 _ (by kernel_rfl) rfl rfl
                have hg_ : a_.eval (.tmp 35) = .bool true := hk_.got 2 35 _ (by kernel_rfl) rfl rfl
                have hy_ := hk_.want 2 _ 35 true rfl rfl hg_
                have hx_ := hk_.ext
                clear hk_
                refine flow_want rfl hy_ ?_
                unfold gives
                have hc_ : ∀ v, a_.eval (.const v) = v := fun _ => rfl
                have hn_ : ∀ f, a_.eval (.func f) = .func (.func f) #[] #[] := fun _ => rfl
                clear hy_ hg_
                generalize a_.eval = ρ_ at *
                go_simp
                exact ⟨Below.refl _ _, congrArg (Value.int _) ((wr_i64 _ (by omega) (by omega)).trans (by omega))⟩
              refine allFrom_cons ?_ ?_
              · intro a_ w_ hk_
                have h36 : a_.eval (.tmp 36) = (.slice (some ⟨g4, 0, none⟩) n p4) := hk_.got 3 36 _ (by kernel_rfl) rfl rfl
                have h38 : a_.eval (.tmp 38) = (.int .i64 (n1 : Int)) := hk_.got 5 38 _ (by kernel_rfl) rfl rfl
                have hg_ : a_.eval (.tmp 35) = .bool true := hk_.got 2 35 _ (by kernel_rfl) rfl rfl
                have hy_ := hk_.want 2 _ 35 true rfl rfl hg_
                have hx_ := hk_.ext
                clear hk_
                refine flow_want rfl hy_ ?_
                unfold gives
                have hc_ : ∀ v, a_.eval (.const v) = v := fun _ => rfl
                have hn_ : ∀ f, a_.eval (.func f) = .func (.func f) #[] #[] := fun _ => rfl
                clear hy_ hg_
                generalize a_.eval = ρ_ at *
                go_simp
                exact ⟨Below.refl _ _, rfl⟩
              refine allFrom_cons ?_ ?_
              · intro a_ w_ hk_
                have h39 : a_.eval (.tmp 39) = (.pointer (some ⟨g4, n1, none⟩)) := hk_.got 6 39 _ (by kernel_rfl) rfl rfl
                have hg_ : a_.eval (.tmp 35) = .bool true := hk_.got 2 35 _ (by kernel_rfl) rfl rfl
                have hy_ := hk_.want 2 _ 35 true rfl rfl hg_
                have hx_ := hk_.ext
                clear hk_
                refine flow_want rfl hy_ ?_
                unfold gives
                have hc_ : ∀ v, a_.eval (.const v) = v := fun _ => rfl
                have hn_ : ∀ f, a_.eval (.func f) = .func (.func f) #[] #[] := fun _ => rfl
                clear hy_ hg_
                have hcell := (hx_.cell (p := ⟨g4, n1, none⟩) hg4').trans cs1
                generalize a_.eval = ρ_ at *
                go_simp
                exact ⟨Below.refl _ _, rfl⟩
              refine allFrom_cons ?_ ?_
              · intro a_ w_ hk_
                have h4 : a_.eval (.tmp 4) = .slice (some ⟨g4, 0, none⟩) n p4 := hk_.old 4 (by kernel_rfl)
                have hg_ : a_.eval (.tmp 35) = .bool true := hk_.got 2 35 _ (by kernel_rfl) rfl rfl
                have hy_ := hk_.want 2 _ 35 true rfl rfl hg_
                have hx_ := hk_.ext
                clear hk_
                refine flow_want rfl hy_ ?_
                exact gives_move rfl ⟨Below.refl _ _, h4⟩
              refine allFrom_cons ?_ ?_
              · intro a_ w_ hk_
                have h6 : a_.eval (.tmp 6) = .int .i64 (n : Int) := hk_.old 6 (by kernel_rfl)
                have hg_ : a_.eval (.tmp 35) = .bool true := hk_.got 2 35 _ (by kernel_rfl) rfl rfl
                have hy_ := hk_.want 2 _ 35 true rfl rfl hg_
                have hx_ := hk_.ext
                clear hk_
                refine flow_want rfl hy_ ?_
                exact gives_move rfl ⟨Below.refl _ _, h6⟩
              refine allFrom_cons ?_ ?_
              · intro a_ w_ hk_
                have h42 : a_.eval (.tmp 42) = (.int .i64 (n : Int)) := hk_.got 9 42 _ (by kernel_rfl) rfl rfl
                have hg_ : a_.eval (.tmp 35) = .bool true := hk_.got 2 35 _ (by kernel_rfl) rfl rfl
                have hy_ := hk_.want 2 _ 35 true rfl rfl hg_
                have hx_ := hk_.ext
                clear hk_
                refine flow_want rfl hy_ ?_
                unfold gives
                have hc_ : ∀ v, a_.eval (.const v) = v := fun _ => rfl
                have hn_ : ∀ f, a_.eval (.func f) = .func (.func f) #[] #[] := fun _ => rfl
                clear hy_ hg_
                generalize a_.eval = ρ_ at *
                go_simp
                exact ⟨Below.refl _ _, congrArg (Value.int _) ((wr_i64 _ (by omega) (by omega)).trans (by omega))⟩
              refine allFrom_cons ?_ ?_
              · intro a_ w_ hk_
                have h41 : a_.eval (.tmp 41) = (.slice (some ⟨g4, 0, none⟩) n p4) := hk_.got 8 41 _ (by kernel_rfl) rfl rfl
                have h43 : a_.eval (.tmp 43) = (.int .i64 (k : Int)) := hk_.got 10 43 _ (by kernel_rfl) rfl rfl
                have hg_ : a_.eval (.tmp 35) = .bool true := hk_.got 2 35 _ (by kernel_rfl) rfl rfl
                have hy_ := hk_.want 2 _ 35 true rfl rfl hg_
                have hx_ := hk_.ext
                clear hk_
                refine flow_want rfl hy_ ?_
                unfold gives
                have hc_ : ∀ v, a_.eval (.const v) = v := fun _ => rfl
                have hn_ : ∀ f, a_.eval (.func f) = .func (.func f) #[] #[] := fun _ => rfl
                clear hy_ hg_
                generalize a_.eval = ρ_ at *
                go_simp
                exact ⟨Below.refl _ _, rfl⟩
              refine allFrom_cons ?_ ?_
              · intro a_ w_ hk_
                have h44 : a_.eval (.tmp 44) = (.pointer (some ⟨g4, k, none⟩)) := hk_.got 11 44 _ (by kernel_rfl) rfl rfl
                have hg_ : a_.eval (.tmp 35) = .bool true := hk_.got 2 35 _ (by kernel_rfl) rfl rfl
                have hy_ := hk_.want 2 _ 35 true rfl rfl hg_
                have hx_ := hk_.ext
                clear hk_
                refine flow_want rfl hy_ ?_
                unfold gives
                have hc_ : ∀ v, a_.eval (.const v) = v := fun _ => rfl
                have hn_ : ∀ f, a_.eval (.func f) = .func (.func f) #[] #[] := fun _ => rfl
                clear hy_ hg_
                have hcell := (hx_.cell (p := ⟨g4, k, none⟩) hg4').trans cs2
                generalize a_.eval = ρ_ at *
                go_simp
                exact ⟨Below.refl _ _, rfl⟩
              refine allFrom_cons ?_ ?_
              · intro a_ w_ hk_
                have h40 : a_.eval (.tmp 40) = (.int .i64 (s : Int)) := hk_.got 7 40 _ (by kernel_rfl) rfl rfl
                have h45 : a_.eval (.tmp 45) = (.int .i64 (s' : Int)) := hk_.got 12 45 _ (by kernel_rfl) rfl rfl
                have hg_ : a_.eval (.tmp 35) = .bool true := hk_.got 2 35 _ (by kernel_rfl) rfl rfl
                have hy_ := hk_.want 2 _ 35 true rfl rfl hg_
                have hx_ := hk_.ext
                clear hk_
                refine flow_want rfl hy_ ?_
                unfold gives
                have hc_ : ∀ v, a_.eval (.const v) = v := fun _ => rfl
                have hn_ : ∀ f, a_.eval (.func f) = .func (.func f) #[] #[] := fun _ => rfl
                clear hy_ hg_
                generalize a_.eval = ρ_ at *
                go_simp
                exact ⟨Below.refl _ _, congrArg Value.bool (decide_eq_false (by omega))⟩
              refine allFrom_cons ?_ ?_
              · intro a_ w_ hk_
                have h35 : a_.eval (.tmp 35) = (.bool true) := hk_.got 2 35 _ (by kernel_rfl) rfl rfl
                have h46 : a_.eval (.tmp 46) = (.bool false) := hk_.got 13 46 _ (by kernel_rfl) rfl rfl
                have hx_ := hk_.ext
                clear hk_
                refine flow_plain rfl ?_
                exact gives_pick rfl h35 ⟨Below.refl _ _, h46⟩
              exact allFrom_nil
            intro f_ w_ hx_ hf_
            have h33 : f_ 33 = (.int .i64 (n : Int)) := hf_ 0 33 _ (by decide) rfl rfl
            have h34 : f_ 34 = (.bool true) := hf_ 1 34 _ (by decide) rfl rfl
            have h35 : f_ 35 = (.bool true) := hf_ 2 35 _ (by decide) rfl rfl
            have h36 : f_ 36 = (.slice (some ⟨g4, 0, none⟩) n p4) := hf_ 3 36 _ (by decide) rfl rfl
            have h37 : f_ 37 = (.int .i64 (n : Int)) := hf_ 4 37 _ (by decide) rfl rfl
            have h38 : f_ 38 = (.int .i64 (n1 : Int)) := hf_ 5 38 _ (by decide) rfl rfl
            have h39 : f_ 39 = (.pointer (some ⟨g4, n1, none⟩)) := hf_ 6 39 _ (by decide) rfl rfl
            have h40 : f_ 40 = (.int .i64 (s : Int)) := hf_ 7 40 _ (by decide) rfl rfl
            have h41 : f_ 41 = (.slice (some ⟨g4, 0, none⟩) n p4) := hf_ 8 41 _ (by decide) rfl rfl
            have h42 : f_ 42 = (.int .i64 (n : Int)) := hf_ 9 42 _ (by decide) rfl rfl
            have h43 : f_ 43 = (.int .i64 (k : Int)) := hf_ 10 43 _ (by decide) rfl rfl
            have h44 : f_ 44 = (.pointer (some ⟨g4, k, none⟩)) := hf_ 11 44 _ (by decide) rfl rfl
            have h45 : f_ 45 = (.int .i64 (s' : Int)) := hf_ 12 45 _ (by decide) rfl rfl
            have h46 : f_ 46 = (.bool false) := hf_ 13 46 _ (by decide) rfl rfl
            have h47 : f_ 47 = (.bool false) := hf_ 14 47 _ (by decide) rfl rfl
            simp only [mix, List.drop_succ_cons, List.drop_zero, h33, h34, h35, h36, h37, h38, h39, h40, h41, h42, h43, h44, h45, h46, h47]
            clear h33 h34 h35 h36 h37 h38 h39 h40 h41 h42 h43 h44 h45 h46 h47
            clear hf_
            go_wp2_with fail
            go_roundw
            case rel => exact ⟨i + 1, by omega, by go_num, by rw [← HZ.out, ← HF.out, fin_less _ _ _ hss, List.length_cons, List.length_cons, ← HK.out, ← HNK.out]; exact own_keep ho3 hx_, by rw [← HZ.out, ← HF.out, fin_less _ _ _ hss, List.length_cons, List.length_cons, ← HK.out, ← HNK.out]; exact own_keep ho4 hx_, hbq.trans (hx_.mono hbq.size)⟩
            case measure => simp [intOf]; omega
          -- >>A
    · obtain rfl : i = ls.length := by omega
      rw [List.take_length] at hown3 hown4
      clear hlt hi
      have HOK := hid (stk_32 ls)
      have hne : 0 < sizeS (stk ls) := by rw [sizeS_stk]; exact h0
      have hle := stk_len ls
      have HTT := HT
      clear HT
      generalize stk ls = st at *
      cases st with
      | nil => exact absurd hne (by decide)
      | cons p r =>
        obtain ⟨s, h⟩ := p
        obtain ⟨n, hn⟩ : ∃ n, n = r.length := ⟨_, rfl⟩
        rw [List.length_cons, ← hn] at hown3 hown4 hle
        have HN := hid hn
        clear hn hne hown4
        obtain ⟨g3, p3, e3, hg3, hg3', hp3, hm3⟩ := own_block hown3 (by omega)
        subst e3
        obtain ⟨m, hm⟩ : ∃ m, m = n + 1 := ⟨_, rfl⟩
        rw [← hm] at hown3 hle ⊢
        have HM := hid hm
        have h32s : ∀ x ∈ (((s, h) :: r).map (·.2)).reverse, x.length = 32 := by
          intro x hx
          rw [List.mem_reverse, List.mem_map] at hx
          obtain ⟨q, hq, rfl⟩ := hx
          exact HOK.out q hq
        have hlen2 : (((s, h) :: r).map (·.2)).reverse.length = m := by simp [hm, HN.out]
        have hrow := own_rd hown3
        have HCH := hid (fun k hk => (rd_hash hrow h32s k hk).2)
        have hhl : h.length = 32 := HOK.out (s, h) (List.mem_cons_self ..)
        have c1 := HCH.out n (by omega)
        have g1 : (((s, h) :: r).map (·.2)).reverse[n]'(by omega) = h := by
          rw [List.getElem_reverse]
          simp only [List.length_map, List.length_cons, ← HN.out, show n + 1 - 1 - n = 0 by omega]
          rfl
        rw [g1, Nat.zero_add] at c1
        have hah := aggHL hhl
        have e1 : (m : Int) - 1 = (n : Int) := by omega
        have hnm : n < m := by omega
        have hm21 : m ≤ 21 := by omega
        have hbz := hz2.below hbr hz2.lt
        have HB := hid (bx_trans hb2 hbr)
        have hg2r : g2 < wr.heap.size := hbz.lt
        clear hrow g1 hm hown3 hz2
        go_wp2_with (first
          | ((with_reducible refine wpAtC ?_); refine wpList_loadG rfl _ _ rfl _ _ rfl (h.map cb) hah c1 ?_; simp only [Act.put, List.setIfInBounds_toArray, List.set_cons_succ, List.set_cons_zero])
          | ((with_reducible refine wpAtC ?_); refine wpList_alloc (w := wr) rfl _ rfl zeroH ?_; intro g8 w8 hg8 hg8' hz8 hb8; simp only [Act.put, List.setIfInBounds_toArray, List.set_cons_succ, List.set_cons_zero])
          | ((with_reducible refine wpAtC ?_); refine wpList_store_agg rfl _ _ _ rfl _ _ rfl (h.map cb).toArray rfl (aggHS hhl) hz8 (szH hhl) (one_cbA h) ?_; intro w9 hp9; simp only [Act.put]; rw [splH hhl] at hp9))
        have hb9 := hb8.trans (hp9.below hg8)
        have hx9 := hp9.blk
        have hne82 : g2 ≠ g8 := by omega
        have hbz9 := hp9.other (hbz.below hb8 hg2r) hne82
        clear hz8 hp9 hb8 hbz
        go_loopw [9] (fun v9 wq => ∃ (a b : List (Nat × List UInt8)), r = a ++ b ∧ v9 = .int .i64 ((b.length : Int) - 1) ∧ Blk wq g8 37 ((a.foldl (fun x q => nodeL q.2 x) h).map cb).toArray ∧ wq.heap[g2]? = w9.heap[g2]? ∧ Below wr.heap.size wr wq) (fun v9 _ => (intOf v9 + 1).toNat)
        case atStart => exact ⟨[], r, rfl, by rw [← HN.out]; go_num, hx9, rfl, hb9⟩
        case round =>
          obtain ⟨a, b, hab, rfl, hx, hg2q, hbq⟩ := hrel
          clear hx9
          rename World => wq
          have hcl : (a.foldl (fun x q => nodeL q.2 x) h).length = 32 := by
            have key : ∀ (a : List (Nat × List UInt8)) (x : List UInt8), x.length = 32 → (a.foldl (fun x q => nodeL q.2 x) x).length = 32 := by
              intro a
              induction a with
              | nil => intro x hx; exact hx
              | cons q a ih => intro x hx; exact ih _ (nodeL_len _ _)
            exact key a h hhl
          cases b with
          | nil =>
            rw [List.append_nil] at hab
            have hfin : a.foldl (fun x q => nodeL q.2 x) h = T := by rw [HTT.out, hab]; rfl
            rw [hfin] at hx hcl
            have hz := show Blk wq g2 37 _ from hg2q.trans hbz9
            have hcx := blk_cells hx
            have hah2 := aggHL hcl
            have hbF := (HB.out.trans (hbq.mono HB.out.size))
            clear hab hfin hx hg2q hbz9 hbq
            go_wp2_with (first
              | ((with_reducible refine wpAtC ?_); refine wpList_loadG rfl _ _ rfl _ _ rfl (T.map cb) hah2 hcx ?_; simp only [Act.put, List.setIfInBounds_toArray, List.set_cons_succ, List.set_cons_zero])
              | ((with_reducible refine wpAtC ?_); refine wpList_store_agg rfl _ _ _ rfl _ _ rfl (T.map cb).toArray rfl (aggHS hcl) hz (szH hcl) (one_cbA T) ?_; intro w10 hp10; simp only [Act.put]; rw [splH hcl] at hp10))
            exact bodyPost_ret (results_agg (cs := T.map cb) rfl rfl (aggHL hcl) (blk_cells hp10.blk)) rfl ⟨rfl, bx_put hbF hp10 hg2⟩
          | cons q b =>
            obtain ⟨s', h'⟩ := q
            have hh' : h'.length = 32 := HOK.out (s', h') (by rw [hab]; simp)
            obtain ⟨k, hk⟩ : ∃ k, k = b.length := ⟨_, rfl⟩
            have hrl : n = a.length + (k + 1) := by rw [HN.out, hab, List.length_append, List.length_cons, hk]
            have ck := HCH.out k (by rw [hlen2]; omega)
            have gk : (((s, h) :: r).map (·.2)).reverse[k]'(by rw [hlen2]; omega) = h' := by
              have e := rev_at (s, h) a b (s', h')
              rw [← hab, ← hk] at e
              exact Option.some.inj ((List.getElem?_eq_getElem _).symm.trans e)
            rw [gk] at ck
            have hkm : k < m := by omega
            have e5 : (((s', h') :: b).length : Int) - 1 = (k : Int) := by rw [List.length_cons, ← hk]; omega
            rw [e5]
            generalize hX0 : a.foldl (fun x q => nodeL q.2 x) h = x0 at *
            have hah2 := aggHL hcl
            have hah3 := aggHL hh'
            have HN2 := hid (fun w' => rNode_any w' hh' hcl)
            have HX0 := hid hX0
            have HCK := hid ck
            have HAB := hid hab
            have HK := hid hk
            clear e5 gk ck hab hrl hk hX0
            go_wp2_with fail
            refine wp_flow (by kernel_rfl) [0, 0, 3, 7, 0, 31, 63] 6 [false, false, false, false, false, false, false, false, false, false, false, false, false, false, false, false, false, false, false, false, false, false, false, false, false, false, false, false, false, false, false, false, false, false, false, false, false, false, false, false, false, false, false, false, false, false, false, false, false, false, false, false, false, false, false, false, false, false, false, false, false, false, false, false, false, false, false, false, false, false, false, false, false, false, false, false, false, false, false, false, false, false, false, false, false, false, false, false, false, false, false, false, false, true, true, true, true, true, true] (by kernel_rfl) (by decide) (by kernel_rfl) [FP.eq (.slice (some ⟨g3, 0, none⟩) m p3), FP.eq (.int .i64 (k : Int)), FP.eq (.pointer (some ⟨g3, 0 + k * 32, none⟩)), FP.eq (.agg (h'.map cb).toArray), FP.eq (.agg (x0.map cb).toArray), FP.eq (.agg ((shaL (1 :: (h' ++ x0))).map cb).toArray)] ?_ ?_
            · refine allFrom_cons ?_ ?_
              · intro a_ w_ hk_
                have h3 : a_.eval (.tmp 3) = .slice (some ⟨g3, 0, none⟩) m p3 := hk_.old 3 (by kernel_rfl)
                have hx_ := hk_.ext
                clear hk_
                refine flow_plain rfl ?_
                exact gives_move rfl ⟨Below.refl _ _, h3⟩
              refine allFrom_cons ?_ ?_
              · intro a_ w_ hk_
                have h9 : a_.eval (.tmp 9) = .int .i64 (k : Int) := hk_.old 9 (by kernel_rfl)
                have hx_ := hk_.ext
                clear hk_
                refine flow_plain rfl ?_
                exact gives_move rfl ⟨Below.refl _ _, h9⟩
              refine allFrom_cons ?_ ?_
              · intro a_ w_ hk_
                have h93 : a_.eval (.tmp 93) = (.slice (some ⟨g3, 0, none⟩) m p3) := hk_.got 0 93 _ (by kernel_rfl) rfl rfl
                have h94 : a_.eval (.tmp 94) = (.int .i64 (k : Int)) := hk_.got 1 94 _ (by kernel_rfl) rfl rfl
                have hx_ := hk_.ext
                clear hk_
                refine flow_plain rfl ?_
                unfold gives
                have hc_ : ∀ v, a_.eval (.const v) = v := fun _ => rfl
                have hn_ : ∀ f, a_.eval (.func f) = .func (.func f) #[] #[] := fun _ => rfl
                generalize a_.eval = ρ_ at *
                go_simp
                exact ⟨Below.refl _ _, rfl⟩
              refine allFrom_cons ?_ ?_
              · intro a_ w_ hk_
                have h95 : a_.eval (.tmp 95) = (.pointer (some ⟨g3, 0 + k * 32, none⟩)) := hk_.got 2 95 _ (by kernel_rfl) rfl rfl
                have hx_ := hk_.ext
                clear hk_
                refine flow_plain rfl ?_
                exact gives_ldC rfl h95 hah3 (fun i v hv => ((hbq.trans (hx_.mono hbq.size)).cell (p := ⟨g3, 0 + k * 32 + i, none⟩) hg3').trans (HCK.out i v hv)) ⟨Below.refl _ _, rfl⟩
              refine allFrom_cons ?_ ?_
              · intro a_ w_ hk_
                have h8 : a_.eval (.tmp 8) = .pointer (some ⟨g8, 0, none⟩) := hk_.old 8 (by kernel_rfl)
                have hx_ := hk_.ext
                clear hk_
                refine flow_plain rfl ?_
                exact gives_ldC rfl h8 hah2 (blk_cells (hx.below hx_ hx.lt)) ⟨Below.refl _ _, rfl⟩
              refine allFrom_cons ?_ ?_
              · intro a_ w_ hk_
                have h96 : a_.eval (.tmp 96) = (.agg (h'.map cb).toArray) := hk_.got 3 96 _ (by kernel_rfl) rfl rfl
                have h97 : a_.eval (.tmp 97) = (.agg (x0.map cb).toArray) := hk_.got 4 97 _ (by kernel_rfl) rfl rfl
                have hx_ := hk_.ext
                clear hk_
                refine flow_plain rfl ?_
                unfold gives
                have hc_ : ∀ v, a_.eval (.const v) = v := fun _ => rfl
                have hn_ : ∀ f, a_.eval (.func f) = .func (.func f) #[] #[] := fun _ => rfl
                generalize a_.eval = ρ_ at *
                go_simp
                exact (HN2.out w_).mono fun e w' hh => ⟨_, hh.1, hh.2, rfl⟩
              exact allFrom_nil
            intro f_ w_ hx_ hf_
            have h93 : f_ 93 = (.slice (some ⟨g3, 0, none⟩) m p3) := hf_ 0 93 _ (by decide) rfl rfl
            have h94 : f_ 94 = (.int .i64 (k : Int)) := hf_ 1 94 _ (by decide) rfl rfl
            have h95 : f_ 95 = (.pointer (some ⟨g3, 0 + k * 32, none⟩)) := hf_ 2 95 _ (by decide) rfl rfl
            have h96 : f_ 96 = (.agg (h'.map cb).toArray) := hf_ 3 96 _ (by decide) rfl rfl
            have h97 : f_ 97 = (.agg (x0.map cb).toArray) := hf_ 4 97 _ (by decide) rfl rfl
            have h98 : f_ 98 = (.agg ((shaL (1 :: (h' ++ x0))).map cb).toArray) := hf_ 5 98 _ (by decide) rfl rfl
            simp only [mix, List.drop_succ_cons, List.drop_zero, h93, h94, h95, h96, h97, h98]
            clear h93 h94 h95 h96 h97 h98
            clear hf_
            rename World => wv
            have hxv := hx.below hx_ hx.lt
            have hbv := hbq.trans (hx_.mono hbq.size)
            have hg2v : wv.heap[g2]? = w9.heap[g2]? := (hx_.block g2 (Nat.lt_of_lt_of_le hg2r hbq.size)).trans hg2q
            have hnl := shaL_len (1 :: (h' ++ x0))
            have HY := hid (show shaL (1 :: (h' ++ x0)) = (a ++ [(s', h')]).foldl (fun x q => nodeL q.2 x) h by rw [List.foldl_append, HX0.out]; rfl)
            clear hx hx_ HN2
            generalize shaL (1 :: (h' ++ x0)) = N at *
            go_wp2_with ((with_reducible refine wpAtC ?_); refine wpList_store_agg rfl _ _ _ rfl _ _ rfl (N.map cb).toArray rfl (aggHS hnl) hxv (by rw [List.size_toArray, List.size_toArray, List.length_map, List.length_map]; omega) (one_cbA N) ?_; intro w18 hp18; simp only [Act.put])
            rw [show spl (x0.map cb).toArray 0 (N.map cb).toArray.toList = (N.map cb).toArray from spl_whole (by rw [List.size_toArray, List.size_toArray, List.length_map, List.length_map]; omega)] at hp18
            go_roundw
            case rel => exact ⟨a ++ [(s', h')], b, by rw [HAB.out]; simp, by rw [← HK.out], by rw [← HY.out]; exact hp18.blk, (hp18.oth g2 hne82).trans hg2v, hbv.trans (hp18.below hg8)⟩
            case measure => simp [intOf]
theorem rRoot_any (w : World) {A : Option Addr} {c : Nat} {ls : List (List UInt8)} (hr : Rd w w.heap.size A (ls.map sv)) (hc : ls.length ≤ c) (h20 : ls.length ≤ 20) (hs : ∀ l ∈ ls, l.length ≤ 60) :
    Calls Tryd.prog 26 #[.slice A ls.length c] w fun e w' => e = .returned (.agg ((treeR ls).map cb).toArray) ∧ Below w.heap.size w w' := by
  rcases Nat.eq_zero_or_pos ls.length with h0 | h0
  · have : ls = [] := List.eq_nil_of_length_eq_zero h0
    subst this
    rw [treeR_nil]
    exact rRoot_nil w A c
  · exact rRoot_some w hr hc h20 h0 hs
end Go.Proofs.YtjkolpioglpigaaDoor
