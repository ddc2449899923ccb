
/- A frontier: Add. -/
import Derived.Test.YtohkfnmggmlogaaDoorFrB
namespace Go.Proofs.YtohkfnmggmlogaaDoor
open Go.RowKit
set_option linter.unusedVariables false
theorem gb_below {w w1 w2 : World} {r : Option Nat} (h : w.grownBy w1 r) (hb : Below w1.heap.size w1 w2) : w.grownBy w2 r :=
  ⟨hb.os.trans h.os, hb.tape.trans h.tape, hb.output.trans h.output, Nat.le_trans h.size hb.size, fun k hk hg => (hb.block k (Nat.lt_of_lt_of_le hk h.size)).trans (h.block k hk hg)⟩
theorem gb_put {w w1 w2 : World} {r : Option Nat} {g t : Nat} {cs : Array Value} (h : w.grownBy w1 r) (hp : Put w1 w2 g t cs) (hg : w.heap.size ≤ g ∨ r = some g) : w.grownBy w2 r :=
  ⟨hp.os.trans h.os, hp.tape.trans h.tape, hp.output.trans h.output, by rw [hp.size]; exact h.size, fun k hk hkr => (hp.oth k (by
    rcases hg with hg | hg
    · omega
    · intro e; subst e; exact hkr hg.symm)).trans (h.block k hk hkr)⟩
theorem cell_of_heap {w w' : World} {g : Nat} (h : w'.heap[g]? = w.heap[g]?) (i : Nat) : w'.cell? ⟨g, i, none⟩ = w.cell? ⟨g, i, none⟩ := by
  simp [World.cell?, h]
theorem own_other {w w1 : World} {base e size n g t : Nat} {v : Value} {xs : List Value} {cs : Array Value} (h : w.ownsRow base e size v n xs) (hp : Put w w1 g t cs) (hne : v.ownBlock ≠ some g) : w1.ownsRow base e size v n xs :=
  h.kept (row := some g) ⟨hp.os, hp.tape, hp.output, Nat.le_of_eq hp.size.symm, fun k _ hk => hp.oth k (fun e => hk (by rw [e]))⟩ (.inr hne)
set_option maxHeartbeats 400000 in
theorem Add_nil (w : World) (v : Value) : Calls Tryd.prog 19 #[.pointer none, v] w fun e w' => e = .returned (.int .i64 1) ∧ w' = w := by
  go_enter Tryd.func19, Tryd.ntmps19
  go_wp2
  go_ret
  exact ⟨rfl, rfl⟩
set_option maxHeartbeats 400000 in
theorem Add_full (w : World) {B g : Nat} {st : List (List UInt8)} {A : Option Addr} {c : Nat} (h : IsF w B g 18446744073709551615 st A c) (v : Value) : Calls Tryd.prog 19 #[.pointer (some ⟨g, 0, none⟩), v] w fun e w' => e = .returned (.int .i64 31) ∧ w' = w := by
  have c0 : w.cell? ⟨g, 0, none⟩ = some (.int .u64 18446744073709551615) := h.blk.cell 0
  clear h
  go_enter Tryd.func19, Tryd.ntmps19
  go_wp2
  go_ret
  exact ⟨rfl, rfl⟩
/-- What a round of Add keeps. -/
def ARel (w : World) (B g n g5 : Nat) (st : List (List UInt8)) (h0 : List UInt8) (A : Option Addr) (c : Nat) (v6 : Value) (wr : World) : Prop :=
  ∃ (x : Nat) (st' : List (List UInt8)) (h : List UInt8) (m : Nat), v6 = .int .u64 (x : Int) ∧ x ≤ n ∧ st'.length = m ∧ m = ones x ∧ fadd x st' h = fadd n st h0 ∧ h.length = 32 ∧ (∀ p ∈ st', p.length = 32) ∧ Blk wr g5 tHa (h.map cb).toArray ∧
    Blk wr g tFr #[.int .u64 (n : Int), .slice A m c] ∧ wr.ownsRow B tHa 32 (.slice A m c) m (st'.reverse.flatten.map cb) ∧ w.grownBy wr (some g)
set_option maxRecDepth 10000 in
set_option maxHeartbeats 2000000 in
theorem Add_any (w : World) {w0 : World} (hL0 : Laid w0) {B g n : Nat} (h00 : Below w0.heap.size w0 w) (hB0 : w0.heap.size ≤ B) {st : List (List UInt8)} {A : Option Addr} {c : Nat} (hF : IsF w B g n st A c) (hn : n < 18446744073709551615) (ho : st.length = ones n) (hB : B ≤ w.heap.size)
    {Ae : Option Addr} {ce B' : Nat} {en : List UInt8} (hr : Rd w B' Ae (en.map cb)) (hB' : B' ≤ w.heap.size) (hce : en.length ≤ ce) (hle : en.length ≤ 100000000) :
    Calls Tryd.prog 19 #[.pointer (some ⟨g, 0, none⟩), .slice Ae en.length ce] w fun e w' => e = .returned (.int .i64 0) ∧ ∃ A' c', FGo w w' B g n st A c (n + 1) (fadd n st (leafL en)) A' c' := by
  have c0 : w.cell? ⟨g, 0, none⟩ = some (.int .u64 (n : Int)) := hF.blk.cell 0
  have hgl := hF.blk.lt
  have HF := hid hF
  have HL := hid (fun (wr : World) (hg : w.grownBy wr (some g)) => hL0.below (h00.trans (((Below.refl B w).grown hg hB (fun k hk => by injection hk with hk; subst hk; exact hF.gB)).mono hB0)))
  have HLF := hid (Leaf_any w (hL0.below h00) hr hB' hce (by omega))
  have hh0 : (leafL en).length = 32 := leafL_len en
  have hne : ¬ (n : Int) = 18446744073709551615 := by omega
  obtain ⟨h0, hh⟩ : ∃ h0, h0 = leafL en := ⟨_, rfl⟩
  have hh2 : shaL (0 :: en) = h0 := hh.symm
  rw [hh2] at HLF
  rw [← hh] at hh0 ⊢
  clear hh hh2 hF hL0 h00 hB0 hr
  have hgB := HF.out.gB
  go_enter Tryd.func19, Tryd.ntmps19
  go_wp2_with fail
  refine HLF.out.mono ?_
  rintro e w1 ⟨rfl, hb1⟩
  have HF1 := hid (HF.out.below hb1)
  clear c0
  go_wp2_with (first
    | ((with_reducible refine wpAtC ?_); refine wpList_alloc (w := w1) rfl _ rfl zeroH ?_; intro g5 w5 hg5 hg5' hz5 hb5; have HF5 := hid (HF1.out.below hb5); have hne5 : g5 ≠ g := (by have := hb1.size; omega); simp only [Act.put, List.setIfInBounds_toArray, List.set_cons_succ, List.set_cons_zero])
    | ((with_reducible refine wpAtC ?_); refine wpList_store_agg rfl _ _ _ rfl _ _ rfl (h0.map cb).toArray rfl (aggHS hh0) hz5 (szH hh0) (one_cbA h0) ?_; intro w6 hp6; simp only [Act.put]; rw [splH hh0] at hp6; have c0 : w6.cell? ⟨g, 0, none⟩ = some (.int .u64 (n : Int)) := (hp6.other HF5.out.blk hne5.symm).cell 0))
  have hbs1 := hb1.size
  have hg5w : w.heap.size ≤ g5 := by omega
  have hgb6 : w.grownBy w6 (some g) := gb_put (gb_below (gb_below (World.grownBy.refl w _) hb1) hb5) hp6 (.inl hg5w)
  have hown6 := own_other HF5.out.own hp6 (by
    intro e
    have := (HF.out.own.lt g5 e).2
    omega)
  have hbl6 := hp6.other HF5.out.blk hne5.symm
  have hx6 := hp6.blk
  have hb0 : ((n : Int) == 18446744073709551615) = false := by simpa using hne
  try rw [hb0]
  clear hb0
  go_loopw [6, 7] (fun v6 v7 wr => ARel w B g n g5 st h0 A c v6 wr) (fun v6 _ _ => (intOf v6).toNat)
  case atStart => exact ⟨n, st, h0, st.length, rfl, Nat.le_refl _, rfl, ho, rfl, hh0, HF.out.ok, hx6, hbl6, hown6, hgb6⟩
  case round =>
    clear hx6 hbl6 hown6 hgb6 c0 hp6 hz5 hb5 HF1 HF5 hb1 HLF hbs1
    obtain ⟨x, st', h, m, rfl, hxn, hm, hmo, hfa, hh32, hs32, hbx, hbf, hown, hgb⟩ := hrel
    rename World => wr
    have hx64 : x < 18446744073709551616 := by omega
    have hand := and1_u64 hx64
    have c1 : wr.cell? ⟨g, 1, none⟩ = some (.slice A m c) := hbf.cell 1
    have c0 : wr.cell? ⟨g, 0, none⟩ = some (.int .u64 (n : Int)) := hbf.cell 0
    have hws := hgb.size
    rcases Nat.mod_two_eq_zero_or_one x with hx2 | hx2
    · rw [hx2] at hand
      rw [fadd_even _ _ hx2] at hfa
      have hah := aggHL hh32
      have h63 : m + 1 ≤ maxLen := by
        have := ones_le 64 x (by omega)
        unfold maxLen; omega
      have hby : (m + 1) * 32 ≤ 140737488355328 := by
        have := ones_le 64 x (by omega)
        omega
      have hw1 : IntKind.u64.wrap ((n : Int) + 1) = ((n + 1 : Nat) : Int) := by rw [← wr_u64 (x := n + 1) (by omega)]; rfl
      have HW1 := hid hw1
      have HFA := hid hfa
      have HM := hid hm
      have HS := hid hs32
      have HX := hid hbx
      have hBr : B ≤ wr.heap.size := Nat.le_trans hB hws
      clear hfa hm hmo hs32 hbx hw1 c0
      go_wp2_with fail
      refine wp_flowQ (by kernel_rfl) [0, 0, 2, 6, 14, 0, 32, 126, 255, 511, 1023] 7 [false, false, false, false, false, false, false, false, false, false, false, false, false, false, false, false, false, false, false, false, false, false, false, false, false, false, false, false, false, false, false, false, false, false, false, false, false, false, false, false, false, false, false, false, false, false, false, false, false, false, false, false, true, true, true, true, true, true, true, true, false, false] (by kernel_rfl) (by decide) (by kernel_rfl) [FP.eq (.pointer (some ⟨g, 0, none⟩)), FP.eq (.pointer (some ⟨g, 0, none⟩)), FP.eq (.pointer (some ⟨g, 0, none⟩)), FP.eq (.pointer (some ⟨g, 1, none⟩)), FP.eq (.slice A m c), FP.eq (.agg (h.map cb).toArray), FP.sl 1 (h.map cb)] (fun v w2 => ∃ w1, Below wr.heap.size wr w1 ∧ w1.grownBy w2 (Value.slice A m c).ownBlock ∧ w2.ownsRow B tHa 32 v (m + 1) (st'.reverse.flatten.map cb ++ h.map cb) ∧ (v.ownBlock = (Value.slice A m c).ownBlock ∨ v.ownBlock = some w1.heap.size)) ?_ (q_of rfl ⟨rfl, ?_⟩) ?_
      · refine allFrom_cons (stepQ_late (by kernel_rfl) rfl ?_) ?_
        · intro a_ w_ hk_
          have h0 : a_.eval (.tmp 0) = .pointer (some ⟨g, 0, none⟩) := hk_ 0 (by kernel_rfl)
          exact gives_move rfl ⟨rfl, fun _ => h0⟩
        refine allFrom_cons (stepQ_yes (by kernel_rfl) ?_) ?_
        · intro a_ w_ hk_
          have h0 : a_.eval (.tmp 0) = .pointer (some ⟨g, 0, none⟩) := hk_.old 0 (by kernel_rfl)
          have hx_ := hk_.ext
          clear hk_
          refine flow_plain rfl ?_
          exact gives_move rfl ⟨Below.refl _ _, h0⟩
        refine allFrom_cons (stepQ_yes (by kernel_rfl) ?_) ?_
        · intro a_ w_ hk_
          have h53 : a_.eval (.tmp 53) = (.pointer (some ⟨g, 0, none⟩)) := hk_.got 1 53 _ (by kernel_rfl) rfl rfl
          have hx_ := hk_.ext
          clear hk_
          refine flow_plain rfl ?_
          unfold gives
          have hc_ : ∀ v, a_.eval (.const v) = v := fun _ => rfl
          have hn_ : ∀ f, a_.eval (.func f) = .func (.func f) #[] #[] := fun _ => rfl
          generalize a_.eval = ρ_ at *
          go_simp
          exact ⟨Below.refl _ _, rfl⟩
        refine allFrom_cons (stepQ_yes (by kernel_rfl) ?_) ?_
        · intro a_ w_ hk_
          have h54 : a_.eval (.tmp 54) = (.pointer (some ⟨g, 0, none⟩)) := hk_.got 2 54 _ (by kernel_rfl) rfl rfl
          have hx_ := hk_.ext
          clear hk_
          refine flow_plain rfl ?_
          unfold gives
          have hc_ : ∀ v, a_.eval (.const v) = v := fun _ => rfl
          have hn_ : ∀ f, a_.eval (.func f) = .func (.func f) #[] #[] := fun _ => rfl
          generalize a_.eval = ρ_ at *
          go_simp
          exact ⟨Below.refl _ _, rfl⟩
        refine allFrom_cons (stepQ_yes (by kernel_rfl) ?_) ?_
        · intro a_ w_ hk_
          have h55 : a_.eval (.tmp 55) = (.pointer (some ⟨g, 1, none⟩)) := hk_.got 3 55 _ (by kernel_rfl) rfl rfl
          have hx_ := hk_.ext
          clear hk_
          refine flow_plain rfl ?_
          unfold gives
          have hc_ : ∀ v, a_.eval (.const v) = v := fun _ => rfl
          have hn_ : ∀ f, a_.eval (.func f) = .func (.func f) #[] #[] := fun _ => rfl
          have hcell := (hx_.cell (p := ⟨g, 1, none⟩) hbf.lt).trans c1
          generalize a_.eval = ρ_ at *
          go_simp
          exact ⟨Below.refl _ _, rfl⟩
        refine allFrom_cons (stepQ_yes (by kernel_rfl) ?_) ?_
        · intro a_ w_ hk_
          have h5 : a_.eval (.tmp 5) = .pointer (some ⟨g5, 0, none⟩) := hk_.old 5 (by kernel_rfl)
          have hx_ := hk_.ext
          clear hk_
          refine flow_plain rfl ?_
          exact gives_ldC rfl h5 hah (blk_cells (HX.out.below hx_ HX.out.lt)) ⟨Below.refl _ _, rfl⟩
        refine allFrom_cons (stepQ_yes (by kernel_rfl) ?_) ?_
        · intro a_ w_ hk_
          have h57 : a_.eval (.tmp 57) = (.agg (h.map cb).toArray) := hk_.got 5 57 _ (by kernel_rfl) rfl rfl
          have hx_ := hk_.ext
          clear hk_
          refine flow_plain rfl ?_
          exact gives_slice1 _ _ rfl _ h57 elHs (cells_cb hh32) (by decide) (slice_hash hh32)
        exact allFrom_nil
      · intro a_ w_ hk_
        have h56 : a_.eval (.tmp 56) = (.slice A m c) := hk_.got 4 56 _ (by kernel_rfl) rfl rfl
        have h58 : (FP.sl 1 (h.map cb)).p (a_.eval (.tmp 58)) w_ := hk_.got 6 58 _ (by kernel_rfl) rfl rfl
        have hx_ := hk_.ext
        clear hk_
        obtain ⟨A58, c58, h58, r58⟩ := h58
        refine gives_appK _ _ _ rfl (.slice A m c) h56 A58 1 c58 h58 elHs (own_keep hown hx_) r58 (len_cb hh32) (one_cb _) h63 hby (Nat.le_trans hBr hx_.size) fun v' w' hown2 hg2 hat2 => ?_
        exact ⟨w_, hx_, hg2, hown2, hat2⟩
      intro f_ w_ hf_ ht_
      have h52 : f_ 52 = (.pointer (some ⟨g, 0, none⟩)) := (hf_ 0 52 _ (by decide) rfl rfl).elim fun _ h => h
      have h53 : f_ 53 = (.pointer (some ⟨g, 0, none⟩)) := (hf_ 1 53 _ (by decide) rfl rfl).elim fun _ h => h
      have h54 : f_ 54 = (.pointer (some ⟨g, 0, none⟩)) := (hf_ 2 54 _ (by decide) rfl rfl).elim fun _ h => h
      have h55 : f_ 55 = (.pointer (some ⟨g, 1, none⟩)) := (hf_ 3 55 _ (by decide) rfl rfl).elim fun _ h => h
      have h56 : f_ 56 = (.slice A m c) := (hf_ 4 56 _ (by decide) rfl rfl).elim fun _ h => h
      have h57 : f_ 57 = (.agg (h.map cb).toArray) := (hf_ 5 57 _ (by decide) rfl rfl).elim fun _ h => h
      have ht := ht_ 59 _ rfl rfl
      clear ht_
      simp only [mix, List.drop_succ_cons, List.drop_zero, h52, h53, h54, h55, h56, h57]
      clear h52 h53 h54 h55 h56 h57
      clear hf_
      rename World => w12
      obtain ⟨w12', hx12, hg12, hown12, hat12⟩ := ht
      obtain ⟨A12, c12, e12, _, _, _⟩ := own_form hown12
      rw [e12] at hown12 hat12 ⊢
      clear e12
      have hbf' := hbf.below hx12 hbf.lt
      have hown' := own_keep hown hx12
      have hbf12 : Blk w12 g tFr #[.int .u64 (n : Int), .slice A m c] := (hg12.block g hbf'.lt (fun e => own_ne hown' hbf' (fun cur hx => by cases hx) e.symm)).trans hbf'
      have c1 := hbf12.cell 1
      have c0 := hbf12.cell 0
      have f1 := hbf12.frozen 1
      have f0 := hbf12.frozen 0
      go_wp2_with fail
      go_ret
      have hp1 := setCell_put hbf12 (i := 1) (.slice A12 (m + 1) c12)
      have hp2 := setCell_put hp1.blk (i := 0) (.int .u64 ((n : Int) + 1))
      have hrow : (h :: st').reverse.flatten.map cb = st'.reverse.flatten.map cb ++ h.map cb := by
        rw [List.reverse_cons, List.flatten_append, List.map_append, List.flatten_singleton]
      have hlen : (h :: st').length = m + 1 := by rw [List.length_cons, HM.out]
      have hne12 := own_ne hown12 hbf12 (fun cur hx => by cases hx)
      have hownF := own_other (own_other hown12 hp1 hne12) hp2 hne12
      have hgb' : w.grownBy w12' (some g) := gb_below hgb hx12
      refine ⟨rfl, A12, c12, ⟨?_, ?_, hgB, ?_⟩, ?_, ?_⟩
      · rw [← HFA.out, hlen, Int.natCast_add]
        exact hp2.blk
      · rw [← HFA.out, hlen, hrow]
        exact hownF
      · rw [← HFA.out]
        intro q hq
        rcases List.mem_cons.1 hq with rfl | hq
        · exact hh32
        · exact HS.out q hq
      · have b1 : Below B w w12' := (Below.refl B w).grown hgb' hB (fun k hk => by injection hk with hk; omega)
        have b2 : Below B w w12 := b1.grown hg12 (Nat.le_trans hB hgb'.size) (fun k hk => (hown'.lt k hk).1)
        exact (b2.trans (hp1.below hgB)).trans (hp2.below hgB)
      · intro k hk hkg hko
        have eqo : (Value.slice A m c).ownBlock = (Value.slice A st.length c).ownBlock := by cases A <;> rfl
        have hko' : some k ≠ (Value.slice A m c).ownBlock := fun e => hko (eqo ▸ e.symm)
        refine ⟨((hp2.oth k hkg).trans (hp1.oth k hkg)).trans ((hg12.block k (Nat.lt_of_lt_of_le hk hgb'.size) hko').trans (hgb'.block k hk (by intro e; injection e with e; exact hkg e))), ?_⟩
        rw [← HFA.out, hlen]
        rcases hat12 with e | e
        · rw [e]; exact fun e => hko' e.symm
        · rw [e]; intro e2; injection e2 with e2; have := hgb'.size; omega
    · rw [hx2] at hand
      cases st' with
      | nil =>
        have := ones_pos hx2
        rw [List.length_nil] at hm
        omega
      | cons p r =>
        obtain ⟨gp, cp, eA, hgp, hgp', hcp, hcm⟩ := own_block hown (by rw [← hm, List.length_cons]; omega)
        injection eA with eA _ ec
        subst eA ec
        obtain ⟨k, hk⟩ : ∃ k, k = r.length := ⟨_, rfl⟩
        have hmk : m = k + 1 := by rw [← hm, List.length_cons, hk]
        have hp32 := hs32 p (List.mem_cons_self ..)
        have hr32 : ∀ q ∈ r, q.length = 32 := fun q hq => hs32 q (List.mem_cons_of_mem _ hq)
        have htk := own_take hown (k := k) (by omega)
        have hrl : r.reverse.flatten.length = k * 32 := by rw [hs_len (fun q hq => hr32 q (List.mem_reverse.1 hq)), List.length_reverse, hk]
        have e3 : ((p :: r).reverse.flatten.map cb).take (k * 32) = r.reverse.flatten.map cb := by
          rw [List.reverse_cons, List.flatten_append, List.map_append, List.take_append_of_le_length (by rw [List.length_map, hrl]; exact Nat.le_refl _), List.take_of_length_le (by rw [List.length_map, hrl]; exact Nat.le_refl _)]
        rw [e3] at htk
        have cp1 := (rd_hash (own_rd hown) (fun q hq => hs32 q (List.mem_reverse.1 hq)) k (by rw [List.length_reverse, List.length_cons, hk]; omega)).2
        have gk : (p :: r).reverse[k]'(by rw [List.length_reverse, List.length_cons, hk]; omega) = p := by
          rw [List.getElem_reverse]
          simp only [List.length_cons, ← hk, show k + 1 - 1 - k = 0 by omega]
          rfl
        rw [gk] at cp1
        have hfo := fadd_odd p r h hx2
        rw [hfo] at hfa
        have honk : k = ones (x / 2) := by have := ones_eq x; omega
        have hap := aggHL hp32
        have hah := aggHL hh32
        have e1 : (m : Int) - 1 = (k : Int) := by omega
        have hkm : k < m := by omega
        have hkc : k ≤ c := by omega
        have HFA := hid hfa
        have HCP := hid cp1
        have HTK := hid htk
        have HMK := hid hmk
        have HKO := hid honk
        have HKL := hid hk
        have HXX := hid (show ((x : Int) / 2) = ((x / 2 : Nat) : Int) by omega)
        clear gk e3 hrl hfo hfa cp1 htk hown hk hm hmo hmk honk
        go_wp2_with fail
        refine wp_flow (by kernel_rfl) [0, 1, 3, 7, 0, 31, 63, 0, 255, 511] 9 [false, false, false, false, false, false, false, false, false, false, false, false, false, false, false, false, false, false, false, false, false, false, false, false, false, false, false, false, false, false, false, false, false, false, true, true, true, true, true, true, true, true, true] (by kernel_rfl) (by decide) (by kernel_rfl) [FP.eq (.pointer (some ⟨g, 0, none⟩)), FP.eq (.pointer (some ⟨g, 0, none⟩)), FP.eq (.pointer (some ⟨g, 1, none⟩)), FP.eq (.slice (some ⟨gp, 0, none⟩) m c), FP.eq (.int .i64 (k : Int)), FP.eq (.pointer (some ⟨gp, 0 + k * 32, none⟩)), FP.eq (.agg (p.map cb).toArray), FP.eq (.agg (h.map cb).toArray), FP.eq (.agg ((shaL (1 :: (p ++ h))).map cb).toArray)] ?_ ?_
        · refine allFrom_cons ?_ ?_
          · intro a_ w_ hk_
            have h0 : a_.eval (.tmp 0) = .pointer (some ⟨g, 0, none⟩) := hk_.old 0 (by kernel_rfl)
            have hx_ := hk_.ext
            clear hk_
            refine flow_plain rfl ?_
            exact gives_move rfl ⟨Below.refl _ _, h0⟩
          refine allFrom_cons ?_ ?_
          · intro a_ w_ hk_
            have h34 : a_.eval (.tmp 34) = (.pointer (some ⟨g, 0, none⟩)) := hk_.got 0 34 _ (by kernel_rfl) rfl rfl
            have hx_ := hk_.ext
            clear hk_
            refine flow_plain rfl ?_
            unfold gives
            have hc_ : ∀ v, a_.eval (.const v) = v := fun _ => rfl
            have hn_ : ∀ f, a_.eval (.func f) = .func (.func f) #[] #[] := fun _ => rfl
            generalize a_.eval = ρ_ at *
            go_simp
            exact ⟨Below.refl _ _, rfl⟩
          refine allFrom_cons ?_ ?_
          · intro a_ w_ hk_
            have h35 : a_.eval (.tmp 35) = (.pointer (some ⟨g, 0, none⟩)) := hk_.got 1 35 _ (by kernel_rfl) rfl rfl
            have hx_ := hk_.ext
            clear hk_
            refine flow_plain rfl ?_
            unfold gives
            have hc_ : ∀ v, a_.eval (.const v) = v := fun _ => rfl
            have hn_ : ∀ f, a_.eval (.func f) = .func (.func f) #[] #[] := fun _ => rfl
            generalize a_.eval = ρ_ at *
            go_simp
            exact ⟨Below.refl _ _, rfl⟩
          refine allFrom_cons ?_ ?_
          · intro a_ w_ hk_
            have h36 : a_.eval (.tmp 36) = (.pointer (some ⟨g, 1, none⟩)) := hk_.got 2 36 _ (by kernel_rfl) rfl rfl
            have hx_ := hk_.ext
            clear hk_
            refine flow_plain rfl ?_
            unfold gives
            have hc_ : ∀ v, a_.eval (.const v) = v := fun _ => rfl
            have hn_ : ∀ f, a_.eval (.func f) = .func (.func f) #[] #[] := fun _ => rfl
            have hcell := (hx_.cell (p := ⟨g, 1, none⟩) hbf.lt).trans c1
            generalize a_.eval = ρ_ at *
            go_simp
            exact ⟨Below.refl _ _, rfl⟩
          refine allFrom_cons ?_ ?_
          · intro a_ w_ hk_
            have h7 : a_.eval (.tmp 7) = .int .i64 (k : Int) := hk_.old 7 (by kernel_rfl)
            have hx_ := hk_.ext
            clear hk_
            refine flow_plain rfl ?_
            exact gives_move rfl ⟨Below.refl _ _, h7⟩
          refine allFrom_cons ?_ ?_
          · intro a_ w_ hk_
            have h37 : a_.eval (.tmp 37) = (.slice (some ⟨gp, 0, none⟩) m c) := hk_.got 3 37 _ (by kernel_rfl) rfl rfl
            have h38 : a_.eval (.tmp 38) = (.int .i64 (k : Int)) := hk_.got 4 38 _ (by kernel_rfl) rfl rfl
            have hx_ := hk_.ext
            clear hk_
            refine flow_plain rfl ?_
            unfold gives
            have hc_ : ∀ v, a_.eval (.const v) = v := fun _ => rfl
            have hn_ : ∀ f, a_.eval (.func f) = .func (.func f) #[] #[] := fun _ => rfl
            generalize a_.eval = ρ_ at *
            go_simp
            exact ⟨Below.refl _ _, rfl⟩
          refine allFrom_cons ?_ ?_
          · intro a_ w_ hk_
            have h39 : a_.eval (.tmp 39) = (.pointer (some ⟨gp, 0 + k * 32, none⟩)) := hk_.got 5 39 _ (by kernel_rfl) rfl rfl
            have hx_ := hk_.ext
            clear hk_
            refine flow_plain rfl ?_
            exact gives_ldC rfl h39 hap (fun i v hv => (hx_.cell (p := ⟨gp, 0 + k * 32 + i, none⟩) hgp').trans (HCP.out i v hv)) ⟨Below.refl _ _, rfl⟩
          refine allFrom_cons ?_ ?_
          · intro a_ w_ hk_
            have h5 : a_.eval (.tmp 5) = .pointer (some ⟨g5, 0, none⟩) := hk_.old 5 (by kernel_rfl)
            have hx_ := hk_.ext
            clear hk_
            refine flow_plain rfl ?_
            exact gives_ldC rfl h5 hah (blk_cells (hbx.below hx_ hbx.lt)) ⟨Below.refl _ _, rfl⟩
          refine allFrom_cons ?_ ?_
          · intro a_ w_ hk_
            have h40 : a_.eval (.tmp 40) = (.agg (p.map cb).toArray) := hk_.got 6 40 _ (by kernel_rfl) rfl rfl
            have h41 : a_.eval (.tmp 41) = (.agg (h.map cb).toArray) := hk_.got 7 41 _ (by kernel_rfl) rfl rfl
            have hx_ := hk_.ext
            clear hk_
            refine flow_plain rfl ?_
            unfold gives
            have hc_ : ∀ v, a_.eval (.const v) = v := fun _ => rfl
            have hn_ : ∀ f, a_.eval (.func f) = .func (.func f) #[] #[] := fun _ => rfl
            generalize a_.eval = ρ_ at *
            go_simp
            exact (Node_any w_ ((HL.out wr hgb).below hx_) hp32 hh32).mono fun e w' hh => ⟨_, hh.1, hh.2, rfl⟩
          exact allFrom_nil
        intro f_ w_ hx_ hf_
        have h34 : f_ 34 = (.pointer (some ⟨g, 0, none⟩)) := hf_ 0 34 _ (by decide) rfl rfl
        have h35 : f_ 35 = (.pointer (some ⟨g, 0, none⟩)) := hf_ 1 35 _ (by decide) rfl rfl
        have h36 : f_ 36 = (.pointer (some ⟨g, 1, none⟩)) := hf_ 2 36 _ (by decide) rfl rfl
        have h37 : f_ 37 = (.slice (some ⟨gp, 0, none⟩) m c) := hf_ 3 37 _ (by decide) rfl rfl
        have h38 : f_ 38 = (.int .i64 (k : Int)) := hf_ 4 38 _ (by decide) rfl rfl
        have h39 : f_ 39 = (.pointer (some ⟨gp, 0 + k * 32, none⟩)) := hf_ 5 39 _ (by decide) rfl rfl
        have h40 : f_ 40 = (.agg (p.map cb).toArray) := hf_ 6 40 _ (by decide) rfl rfl
        have h41 : f_ 41 = (.agg (h.map cb).toArray) := hf_ 7 41 _ (by decide) rfl rfl
        have h42 : f_ 42 = (.agg ((shaL (1 :: (p ++ h))).map cb).toArray) := hf_ 8 42 _ (by decide) rfl rfl
        simp only [mix, List.drop_succ_cons, List.drop_zero, h34, h35, h36, h37, h38, h39, h40, h41, h42]
        clear h34 h35 h36 h37 h38 h39 h40 h41 h42
        clear hf_
        rename World => wa
        have hbxa := hbx.below hx_ hbx.lt
        have hbfa := hbf.below hx_ hbf.lt
        have htka := own_keep HTK.out hx_
        have hgba := gb_below hgb hx_
        have hN32 := shaL_len (1 :: (p ++ h))
        have HN := hid (show nodeL p h = shaL (1 :: (p ++ h)) from rfl)
        generalize shaL (1 :: (p ++ h)) = N at *
        have hng5 : gp ≠ g5 := by
          intro e
          have := hgp
          have := (HF.out.own.lt gp rfl).2
          omega
        clear hx_ hbx hbf HTK hgb c0 c1
        go_wp2_with (first
          | ((with_reducible refine wpAtC ?_); refine wpList_store_agg rfl _ _ _ rfl _ _ rfl (N.map cb).toArray rfl (aggHS hN32) hbxa (by rw [List.size_toArray, List.size_toArray, List.length_map, List.length_map]; omega) (one_cbA N) ?_; intro w7 hp7; simp only [Act.put]; have hbf7 := hp7.other hbfa hne5.symm; have c1 := hbf7.cell 1; have f1 := hbf7.frozen 1))
        rw [show spl (h.map cb).toArray 0 (N.map cb).toArray.toList = (N.map cb).toArray from spl_whole (by rw [List.size_toArray, List.size_toArray, List.length_map, List.length_map]; omega)] at hp7
        have hp8 := setCell_put hbf7 (i := 1) (.slice (some ⟨gp, 0, none⟩) k c)
        have hown7 := own_other htka hp7 (by intro e; injection e with e; exact hng5 e)
        have hown8 := own_other hown7 hp8 (own_ne hown7 hbf7 (fun cur hx => by cases hx))
        refine ⟨⟨x / 2, r, N, k, by rw [HXX.out], by omega, HKL.out.symm, HKO.out, by rw [← HN.out]; exact HFA.out, hN32, hr32, hp8.other hp7.blk hne5, hp8.blk, hown8, gb_put (gb_put hgba hp7 (.inl hg5w)) hp8 (.inr rfl)⟩, ?_⟩
        rw [HXX.out]
        simp only [intOf]
        omega
end Go.Proofs.YtohkfnmggmlogaaDoor
