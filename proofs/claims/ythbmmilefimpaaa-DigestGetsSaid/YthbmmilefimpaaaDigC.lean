
/- Those of a row that are not in another one. -/
import Derived.Test.YthbmmilefimpaaaDigB
namespace Go.Proofs.Ythbmmilefimpaaa
open Go.RowKit Go.Maps
set_option linter.unusedVariables false
theorem zrDK : ZeroT Try.prog 54 (.agg (kc (0, List.replicate 32 0)).toArray) := zeroT_of (by kernel_rfl)
theorem zeroSzK : (Value.agg (kc (0, List.replicate 32 0)).toArray).cells.size = 33 := by simp [Value.cells, kc]
theorem splDK {k : Key} (h : kOk k) : spl (Value.agg (kc (0, List.replicate 32 0)).toArray).cells 0 (kc k).toArray.toList = (kc k).toArray := spl_whole (by
  rw [zeroSzK, List.size_toArray, kc_len h])
theorem szDK {k : Key} (h : kOk k) : 0 + (kc k).toArray.size ≤ (Value.agg (kc (0, List.replicate 32 0)).toArray).cells.size := by
  rw [zeroSzK, List.size_toArray, kc_len h]
  exact Nat.le_refl _
theorem aggSK {k : Key} (h : kOk k) : AggT Try.prog 54 (kc k).toArray.size := by rw [List.size_toArray]; exact aggKc h
theorem oneAK (k : Key) : ∀ u ∈ (kc k).toArray.toList, u.oneCell' = true := kc_one k
theorem keyOfK' {k : Key} (h : kOk k) : ∃ l, keyOf Try.prog 54 (.agg (kc k).toArray) = some l := keyOfK h
theorem zeroIntK : ∀ w, (zeroValue 3).run Try.prog w = .ok (.int .i64 0) w := zeroT_of (by kernel_rfl)
theorem slBK {w : World} {g : Nat} {t : TypeId} {x : Key} (h : Blk w g t (flat [Value.agg (kc x).toArray]).toArray) : Blk w g t (kc x).toArray := by rw [flat1] at h; exact h
theorem sl1K {ops : Array Oper} {rest : List Oper} {o : Oper} {a : Act} {w : World} {Q : Exit → Act → World → Prop} (hgd : o.guard = none) (x : Operand) (ho : o.op = .buildSlice 22 1 #[(0, x)]) {k : Key} (hk : kOk k) (hx : a.eval x = .agg (kc k).toArray)
    (h : ∀ g w1, w.heap.size ≤ g → Blk w1 g 54 (kc k).toArray → Below w.heap.size w w1 → wpList Try.prog ops Q rest (a.put o.dst (.slice (some ⟨g, 0, none⟩) 1 1)) w1) : wpList Try.prog ops Q (o :: rest) a w :=
  wpList_slN hgd ho [.agg (kc k).toArray] (by simp [hx]) rfl elK (fun u hu => by
    rw [List.mem_singleton] at hu
    subst hu
    show (kc k).toArray.size = 33
    rw [List.size_toArray]
    exact kc_len hk) (by simp) (by simp) (fun g w1 h1 h2 h3 => h g w1 h1 (slBK h2) h3)
theorem sl2K {ops : Array Oper} {rest : List Oper} {o : Oper} {a : Act} {w : World} {Q : Exit → Act → World → Prop} (hgd : o.guard = none) (x y : Operand) (ho : o.op = .buildSlice 22 2 #[(0, x), (1, y)]) {k m : Key} (hk : kOk k) (hm : kOk m) (hx : a.eval x = .agg (kc k).toArray) (hy : a.eval y = .agg (kc m).toArray)
    (h : ∀ g w1, w.heap.size ≤ g → Blk w1 g 54 ([k, m].map kc).flatten.toArray → Below w.heap.size w w1 → wpList Try.prog ops Q rest (a.put o.dst (.slice (some ⟨g, 0, none⟩) 2 2)) w1) : wpList Try.prog ops Q (o :: rest) a w :=
  wpList_slN hgd ho [.agg (kc k).toArray, .agg (kc m).toArray] (by simp [hx, hy]) rfl elK (fun u hu => by
    rcases List.mem_cons.1 hu with rfl | hu
    · show (kc k).toArray.size = 33
      rw [List.size_toArray]
      exact kc_len hk
    · rw [List.mem_singleton] at hu
      subst hu
      show (kc m).toArray.size = 33
      rw [List.size_toArray]
      exact kc_len hm) (by simp) (by simp) (fun g w1 h1 h2 h3 => h g w1 h1 (by simpa [flat, Value.cells] using h2) h3)
theorem putK {w w1 : World} {g : Nat} {t : TypeId} {k : Key} (h : kOk k) (hp : Put w w1 g t (spl (Value.agg (kc (0, List.replicate 32 0)).toArray).cells 0 (kc k).toArray.toList)) : Blk w1 g t (kc k).toArray := by
  have := hp.blk
  rw [splDK h] at this
  exact this
set_option maxRecDepth 10000 in
set_option maxHeartbeats 1000000 in
theorem withoutK_any (w : World) {A1 A2 : Option Addr} {c1 c2 : Nat} {l other : List Key} (hok1 : ∀ k ∈ l, kOk k) (hok2 : ∀ k ∈ other, kOk k) (hr1 : Rd w w.heap.size A1 (l.map kc).flatten) (hr2 : Rd w w.heap.size A2 (other.map kc).flatten) (hl1 : l.length ≤ 100000) (hl2 : other.length ≤ 100000) :
    Calls Try.prog 26 #[.slice A1 l.length c1, .slice A2 other.length c2] w fun e w' => ∃ v, e = .returned v ∧ w'.ownsRow w.heap.size 54 33 v (nots l other).length ((nots l other).map kc).flatten ∧ Below w.heap.size w w' := by
  have hmm := @run_makeMap Try.prog
  have HR1 := hid hr1
  have HR2 := hid hr2
  have HO1 := hid hok1
  have HO2 := hid hok2
  clear hr1 hr2 hok1 hok2
  go_enter Try.func26, Try.ntmps26
  go_wp2
  clear hmm
  have hM0 := kmap_new Try.prog 54 w
  have hB0 : Below w.heap.size w (w.alloc (.map #[] 0)) := bx_alloc (Below.refl _ _) _
  obtain ⟨m, hm⟩ : ∃ m, m = w.heap.size := ⟨_, rfl⟩
  have hmw : w.heap.size ≤ m := by omega
  rw [← hm] at hM0
  rw [← hm]
  generalize w.alloc (.map #[] 0) = w1 at *
  clear hm
  go_loopw [14] (fun j wr => ∃ (i : Nat) (f : Value → Option Value), i ≤ other.length ∧ j = .int .i64 i ∧ KMap Try.prog 54 wr m f ∧ Cnt kc kOk f (other.take i) ∧ Below w.heap.size w wr) (fun j _ => other.length - (intOf j).toNat)
  case atStart => exact ⟨0, _, by omega, rfl, hM0, cnt_nil _ _, hB0⟩
  case round =>
    obtain ⟨i, f, hi, rfl, hM, hC, hbr⟩ := hrel
    clear hM0 hB0
    by_cases hlt : i < other.length
    · obtain ⟨b, off, rfl, hbb, hd⟩ := rd_item (i := i) (HR2.out.below hbr) (mapLenK HO2.out) (by decide) (by rw [List.length_map]; exact hlt)
      rw [List.getElem_map] at hd
      have hx := HO2.out _ (List.getElem_mem hlt)
      have htk : other.take (i + 1) = other.take i ++ [other[i]] := List.take_succ_eq_append_getElem hlt
      have HTK := hid htk
      clear htk
      generalize other[i] = x at *
      obtain ⟨lx, hlx⟩ := keyOfK' hx
      obtain ⟨n, hn⟩ : ∃ n, n = cntD x (other.take i) := ⟨_, rfl⟩
      have hcn := cnt_getD hC hx
      rw [← hn] at hcn
      have hn1 : n ≤ 100000 := by rw [hn]; have := cntD_le x (other.take i); rw [List.length_take] at this; omega
      have hwn : IntKind.i64.wrap ((n : Int) + 1) = (n : Int) + 1 := wr_i64 _ (by omega) (by omega)
      have HCN := hid hcn
      have HNN := hid hn
      clear hcn hn
      go_wp2_with (first
        | (refine wpList_load_agg rfl _ _ rfl _ _ rfl (kc x) (aggKc hx) hd ?_)
        | (refine wpList_alloc rfl _ rfl zrDK ?_; intro g5 w5 hg5 hg5' hblk5 hb5; have hM5 := hM.below hb5 hM.lt; have hb05 := bx_trans hbr hb5; have hne5 : m ≠ g5 := Nat.ne_of_lt (Nat.lt_of_lt_of_le hM.lt hg5); have hle5 : w.heap.size ≤ g5 := Nat.le_trans hbr.size hg5)
        | (refine wpList_store_agg rfl _ _ _ rfl _ _ rfl (kc x).toArray rfl (aggSK hx) hblk5 (szDK hx) (oneAK x) ?_; intro w6 hp6; have hblk6 := putK hx hp6; have hM6 := hM5.of_same (hp6.oth m hne5); have hb06 := bx_put hb05 hp6 hle5))
      have hM7 : KMap Try.prog 54 w6.drew m f := hM6
      refine wp_flowK (by kernel_rfl) [0, 0, 3, 7, 3, 19, 63] 7 [false, false, false, false, false, false, false, false, false, false, false, false, false, false, false, false, false, false, true, true, true, true, true, true] (by kernel_rfl) (by decide) (by kernel_rfl) [KP.eq (.map (some m)), KP.eq (.agg (kc x).toArray), KP.eq (.int .i64 (n : Int)), KP.eq (.int .i64 ((n : Int) + 1)), KP.any, KP.any, KP.any] [4, 5, 6] (fun ks w' => match ks with | [some _, some _, some _] => KMap Try.prog 54 w' m (putV f (.agg (kc x).toArray) (.int .i64 ((n : Int) + 1))) ∧ Oth w6.drew w' m | [some v4, some v5, none] => ∃ st : Nat, v4 = .tuple #[.int .i64 (n : Int), .int .i64 (st : Int)] ∧ v5 = .int .i64 (st : Int) ∧ KEnt Try.prog 54 w' m (putV f (.agg (kc x).toArray) (.int .i64 (n : Int))) (.agg (kc x).toArray) st ∧ Oth w6.drew w' m | [some v4, none, none] => ∃ st : Nat, v4 = .tuple #[.int .i64 (n : Int), .int .i64 (st : Int)] ∧ KEnt Try.prog 54 w' m (putV f (.agg (kc x).toArray) (.int .i64 (n : Int))) (.agg (kc x).toArray) st ∧ Oth w6.drew w' m | _ => w' = w6.drew) ?_ ?_ ?_
      · exact rfl
      · refine allFrom_cons ?_ ?_
        · refine stepK_by (by decide) ?_
          intro f_ a_ w_ hM_ hk_
          have h5 : a_.eval (.tmp 5) = .map (some m) := hk_.old 5 (by kernel_rfl)
          have k4 := hk_.later 4 _ (by kernel_rfl) rfl
          have k5 := hk_.later 5 _ (by kernel_rfl) rfl
          have k6 := hk_.later 6 _ (by kernel_rfl) rfl
          clear hk_
          refine flow_plain rfl ?_
          exact gives_move rfl ⟨hM_, h5⟩
        refine allFrom_cons ?_ ?_
        · refine stepK_by (by decide) ?_
          intro f_ a_ w_ hM_ hk_
          have h7 : a_.eval (.tmp 7) = .pointer (some ⟨g5, 0, none⟩) := hk_.old 7 (by kernel_rfl)
          have k4 := hk_.later 4 _ (by kernel_rfl) rfl
          have k5 := hk_.later 5 _ (by kernel_rfl) rfl
          have k6 := hk_.later 6 _ (by kernel_rfl) rfl
          clear hk_
          refine flow_plain rfl ?_
          have hM := hM_
          simp only [List.map_cons, List.map_nil, k4, k5, k6] at hM
          have hbk : Blk w_ g5 54 (kc x).toArray := by (rw [show w_ = w6.drew from hM]; exact hblk6)
          exact gives_loadA rfl h7 (aggKc hx) (blk_cells hbk) ⟨hM_, rfl⟩
        refine allFrom_cons ?_ ?_
        · refine stepK_by (by decide) ?_
          intro f_ a_ w_ hM_ hk_
          have h18 : a_.eval (.tmp 18) = (.map (some m)) := hk_.got 0 18 _ (by kernel_rfl) rfl rfl
          have h19 : a_.eval (.tmp 19) = (.agg (kc x).toArray) := hk_.got 1 19 _ (by kernel_rfl) rfl rfl
          have k6 := hk_.later 6 _ (by kernel_rfl) rfl
          clear hk_
          refine flow_plain rfl ?_
          have hM := hM_
          simp only [List.map_cons, List.map_nil, k6] at hM
          have hKM : ∃ g, KMap Try.prog 54 w_ m g ∧ (g (.agg (kc x).toArray)).getD (.int .i64 0) = .int .i64 (n : Int) := by
            revert hM
            cases f_ 4 with
            | none => exact fun hM => ⟨f, by (rw [show w_ = w6.drew from hM]; exact hM7), HCN.out⟩
            | some v4 =>
              cases f_ 5 with
              | none => exact fun ⟨st, _, hE, _⟩ => ⟨_, hE.map, by rw [putV_at]; rfl⟩
              | some v5 => exact fun ⟨st, _, _, hE, _⟩ => ⟨_, hE.map, by rw [putV_at]; rfl⟩
          obtain ⟨g_, hg1, hg2⟩ := hKM
          exact gives_lookK rfl h18 h19 keyedK hlx Try.underlying83 zeroIntK hg1 ⟨hM_, hg2⟩
        refine allFrom_cons ?_ ?_
        · refine stepK_by (by decide) ?_
          intro f_ a_ w_ hM_ hk_
          have h20 : a_.eval (.tmp 20) = (.int .i64 (n : Int)) := hk_.got 2 20 _ (by kernel_rfl) rfl rfl
          have k6 := hk_.later 6 _ (by kernel_rfl) rfl
          clear hk_
          refine flow_plain rfl ?_
          refine gives_keep hM_ ?_
          unfold gives
          have hc_ : ∀ v, a_.eval (.const v) = v := fun _ => rfl
          have hn_ : ∀ f, a_.eval (.func f) = .func (.func f) #[] #[] := fun _ => rfl
          generalize a_.eval = ρ_ at *
          go_simp
          exact ⟨rfl, rfl⟩
        refine allFrom_cons ?_ ?_
        · intro f_ a_ w_ hM_ hk_
          have h18 : a_.eval (.tmp 18) = (.map (some m)) := hk_.got 0 18 _ (by kernel_rfl) rfl rfl
          have h19 : a_.eval (.tmp 19) = (.agg (kc x).toArray) := hk_.got 1 19 _ (by kernel_rfl) rfl rfl
          have k4 : f_ 4 = none := hk_.un
          have k5 := hk_.later 5 _ (by kernel_rfl) rfl
          have k6 := hk_.later 6 _ (by kernel_rfl) rfl
          clear hk_
          simp only [List.map_cons, List.map_nil, k4, k5, k6] at hM_
          simp only [List.map_cons, List.map_nil, upd_same, upd_ne f_ _ (show (5 : Nat) ≠ 4 by decide), upd_ne f_ _ (show (6 : Nat) ≠ 4 by decide), k5, k6]
          refine flow_plain rfl ?_
          subst hM_
          exact gives_entK rfl h18 h19 keyedK hlx Try.underlying83 zeroIntK hM7 (fun st w1 hE hO => ⟨⟨st, by rw [HCN.out], by rw [HCN.out] at hE; exact hE, hO⟩, trivial⟩)
        refine allFrom_cons ?_ ?_
        · intro f_ a_ w_ hM_ hk_
          have k4 := hk_.val 4 22 _ (by kernel_rfl) rfl rfl
          have k5 : f_ 5 = none := hk_.un
          have k6 := hk_.later 6 _ (by kernel_rfl) rfl
          clear hk_
          simp only [List.map_cons, List.map_nil, k4, k5, k6] at hM_
          simp only [List.map_cons, List.map_nil, upd_same, upd_ne f_ _ (show (4 : Nat) ≠ 5 by decide), upd_ne f_ _ (show (6 : Nat) ≠ 5 by decide), k4, k6]
          refine flow_plain rfl ?_
          obtain ⟨st, he, hE, hO⟩ := hM_
          exact gives_extract rfl he rfl ⟨⟨st, he, rfl, hE, hO⟩, trivial⟩
        refine allFrom_cons ?_ ?_
        · intro f_ a_ w_ hM_ hk_
          have h18 : a_.eval (.tmp 18) = (.map (some m)) := hk_.got 0 18 _ (by kernel_rfl) rfl rfl
          have h21 : a_.eval (.tmp 21) = (.int .i64 ((n : Int) + 1)) := hk_.got 3 21 _ (by kernel_rfl) rfl rfl
          have k4 := hk_.val 4 22 _ (by kernel_rfl) rfl rfl
          have k5 := hk_.val 5 23 _ (by kernel_rfl) rfl rfl
          have k6 : f_ 6 = none := hk_.un
          clear hk_
          simp only [List.map_cons, List.map_nil, k4, k5, k6] at hM_
          simp only [List.map_cons, List.map_nil, upd_same, upd_ne f_ _ (show (4 : Nat) ≠ 6 by decide), upd_ne f_ _ (show (5 : Nat) ≠ 6 by decide), k4, k5]
          refine flow_plain rfl ?_
          obtain ⟨st, he, he5, hE, hO⟩ := hM_
          exact gives_putK rfl h18 he5 h21 hE (fun w1 h1 h2 => ⟨⟨by rw [putV_putV] at h1; exact h1, hO.trans h2⟩, trivial⟩)
        exact allFrom_nil
      intro f_ y_ w_ hM_ hf_ hd_
      have h18 : f_ 18 = (.map (some m)) := (hf_ 0 18 _ (by decide) rfl rfl).1
      have h19 : f_ 19 = (.agg (kc x).toArray) := (hf_ 1 19 _ (by decide) rfl rfl).1
      have h20 : f_ 20 = (.int .i64 (n : Int)) := (hf_ 2 20 _ (by decide) rfl rfl).1
      have h21 : f_ 21 = (.int .i64 ((n : Int) + 1)) := (hf_ 3 21 _ (by decide) rfl rfl).1
      have k4 := (hf_ 4 22 _ (by decide) rfl rfl).2
      have k5 := (hf_ 5 23 _ (by decide) rfl rfl).2
      obtain ⟨x6, k6⟩ := hd_ 6 (by decide)
      simp only [List.map_cons, List.map_nil, k4, k5, k6] at hM_
      simp only [mix, List.drop_succ_cons, List.drop_zero, h18, h19, h20, h21]
      clear hf_ hd_ h18 h19 h20 h21 k4 k5 k6
      obtain ⟨hM8, hO8⟩ := hM_
      have hb08 := (bx_drew hb06).trans (hO8.below hmw)
      have hC8 := cnt_put kc_inj hC (x := x)
      rw [← HNN.out, ← HTK.out] at hC8
      go_wp2
      go_roundw
      case rel => exact ⟨i + 1, putV f (.agg (kc x).toArray) (.int .i64 ((n : Int) + 1)), by omega, by go_num, hM8, hC8, hb08⟩
      case measure => simp [intOf]; omega
    · have hio : i = other.length := by omega
      subst hio
      rw [List.take_length] at hC
      go_wp2
      go_loopw [8, 27] (fun v j wr => ∃ (i : Nat) (f : Value → Option Value), i ≤ l.length ∧ j = .int .i64 i ∧ KMap Try.prog 54 wr m f ∧ Cnt kc kOk f (other ++ l.take i) ∧ wr.ownsRow w.heap.size 54 33 v (nots (l.take i) other).length ((nots (l.take i) other).map kc).flatten ∧ Below w.heap.size w wr) (fun _ j _ => l.length - (intOf j).toNat)
      case atStart => exact ⟨0, f, by omega, rfl, hM, by simpa using hC, World.ownsRow_nil _ _ _ _, hbr⟩
      case round =>
        obtain ⟨i2, f2, hi2, rfl, hM2, hC2, hown, hbr2⟩ := hrel
        obtain ⟨A9, c9, rfl, _, _, _⟩ := own_form hown
        clear hM hC hbr
        by_cases hlt2 : i2 < l.length
        · obtain ⟨b, off, rfl, hbb, hd⟩ := rd_item (i := i2) (HR1.out.below hbr2) (mapLenK HO1.out) (by decide) (by rw [List.length_map]; exact hlt2)
          rw [List.getElem_map] at hd
          have hx := HO1.out _ (List.getElem_mem hlt2)
          have htk : l.take (i2 + 1) = l.take i2 ++ [l[i2]] := List.take_succ_eq_append_getElem hlt2
          have hns := nots_snoc (l.take i2) other l[i2]
          have hnl : (nots (l.take i2) other).length ≤ 100000 := by have := nots_len other (l.take i2) []; rw [List.length_take] at this; show (notsL other [] (l.take i2)).length ≤ _; omega
          have HTK := hid htk
          rw [← htk] at hns
          have HNS := hid hns
          clear htk hns
          generalize l[i2] = x at *
          obtain ⟨lx, hlx⟩ := keyOfK' hx
          obtain ⟨n, hn⟩ : ∃ n, n = cntD x (other ++ l.take i2) := ⟨_, rfl⟩
          have hcn := cnt_getD hC2 hx
          rw [← hn] at hcn
          have hn1 : n ≤ 200000 := by rw [hn]; have := cntD_le x (other ++ l.take i2); rw [List.length_append, List.length_take] at this; omega
          have hwn : IntKind.i64.wrap ((n : Int) + 1) = (n : Int) + 1 := wr_i64 _ (by omega) (by omega)
          have HCN := hid hcn
          have HNN := hid hn
          clear hcn hn
          by_cases hn0 : n = 0
          · have hnm : x ∉ other ++ l.take i2 := cntD_zero.1 (by rw [← HNN.out]; exact hn0)
            rw [if_neg hnm] at HNS
            have hv5 : ∀ g5, wr.heap.size ≤ g5 → (Value.slice A9 (nots (l.take i2) other).length c9).ownBlock ≠ some g5 := fun g5 hg e => Nat.lt_irrefl _ (Nat.lt_of_lt_of_le (hown.lt _ e).2 hg)
            go_wp2_with (first
              | (refine wpList_load_agg rfl _ _ rfl _ _ rfl (kc x) (aggKc hx) (blk_cells hblk6) ?_)
              | (refine wpList_load_agg rfl _ _ rfl _ _ rfl (kc x) (aggKc hx) hd ?_)
              | (refine wpList_alloc rfl _ rfl zrDK ?_; intro g5 w5 hg5 hg5' hblk5 hb5; have hM5 := hM2.below hb5 hM2.lt; have hb05 := bx_trans hbr2 hb5; have hne5 : m ≠ g5 := Nat.ne_of_lt (Nat.lt_of_lt_of_le hM2.lt hg5); have hle5 : w.heap.size ≤ g5 := Nat.le_trans hbr2.size hg5)
              | (refine wpList_store_agg rfl _ _ _ rfl _ _ rfl (kc x).toArray rfl (aggSK hx) hblk5 (szDK hx) (oneAK x) ?_; intro w6 hp6; have hblk6 := putK hx hp6; have hb56 : Below wr.heap.size wr w6 := hb5.trans (hp6.below hg5); have hown6 := own_keep hown hb56; have hM6 := hM5.of_same (hp6.oth m hne5); have hb06 := bx_put hb05 hp6 hle5)
              | (refine wpList_lookK rfl _ _ rfl _ rfl rfl keyedK hlx Try.underlying83 zeroIntK hM6 _ HCN.out ?_)
              | (refine sl1K rfl _ rfl hx rfl ?_; intro g7 w7 hg7 hblk7 hb7; have hr7 := rd_blk hblk7; have hown7 := own_keep hown6 hb7; have hM7 := hM6.below hb7 hM6.lt; have hblk57 := hblk6.below hb7 hblk6.lt; have hb07 := bx_trans hb06 hb7)
              | (at_builtin; refine wpList_app rfl _ _ _ rfl (Value.slice A9 (nots (l.take i2) other).length c9) rfl _ _ _ rfl elK hown7 hr7 (by rw [kc_len hx]) (kc_one x) (by unfold maxLen; omega) (by omega) hb07.size ?_; intro v8 w8 hown8 hgr8 hv8; have hb08 := own_below hb07 hown7 hgr8; have hM8 := hM7.of_same (hgr8.block m hM7.lt (fun e => own_map hown7 hM7 e.symm)); have hblk8 : Blk w8 g5 54 (kc x).toArray := (hgr8.block g5 hblk57.lt (fun e => hv5 g5 hg5 e.symm)).trans hblk57))
            have hM9 : KMap Try.prog 54 w8.drew m f2 := hM8
            refine wp_flowK (by kernel_rfl) [0, 0, 3, 7, 3, 19, 63] 7 [false, false, false, false, false, false, false, false, false, false, false, false, false, false, false, false, false, false, false, false, false, false, false, false, false, false, false, false, false, false, false, false, false, false, false, false, false, false, false, true, true, true, true, true, true] (by kernel_rfl) (by decide) (by kernel_rfl) [KP.eq (.map (some m)), KP.eq (.agg (kc x).toArray), KP.eq (.int .i64 (n : Int)), KP.eq (.int .i64 ((n : Int) + 1)), KP.any, KP.any, KP.any] [4, 5, 6] (fun ks w' => match ks with | [some _, some _, some _] => KMap Try.prog 54 w' m (putV f2 (.agg (kc x).toArray) (.int .i64 ((n : Int) + 1))) ∧ Oth w8.drew w' m | [some v4, some v5, none] => ∃ st : Nat, v4 = .tuple #[.int .i64 (n : Int), .int .i64 (st : Int)] ∧ v5 = .int .i64 (st : Int) ∧ KEnt Try.prog 54 w' m (putV f2 (.agg (kc x).toArray) (.int .i64 (n : Int))) (.agg (kc x).toArray) st ∧ Oth w8.drew w' m | [some v4, none, none] => ∃ st : Nat, v4 = .tuple #[.int .i64 (n : Int), .int .i64 (st : Int)] ∧ KEnt Try.prog 54 w' m (putV f2 (.agg (kc x).toArray) (.int .i64 (n : Int))) (.agg (kc x).toArray) st ∧ Oth w8.drew w' m | _ => w' = w8.drew) ?_ ?_ ?_
            · exact rfl
            · refine allFrom_cons ?_ ?_
              · refine stepK_by (by decide) ?_
                intro f_ a_ w_ hM_ hk_
                have h5 : a_.eval (.tmp 5) = .map (some m) := hk_.old 5 (by kernel_rfl)
                have k4 := hk_.later 4 _ (by kernel_rfl) rfl
                have k5 := hk_.later 5 _ (by kernel_rfl) rfl
                have k6 := hk_.later 6 _ (by kernel_rfl) rfl
                clear hk_
                refine flow_plain rfl ?_
                exact gives_move rfl ⟨hM_, h5⟩
              refine allFrom_cons ?_ ?_
              · refine stepK_by (by decide) ?_
                intro f_ a_ w_ hM_ hk_
                have h10 : a_.eval (.tmp 10) = .pointer (some ⟨g5, 0, none⟩) := hk_.old 10 (by kernel_rfl)
                have k4 := hk_.later 4 _ (by kernel_rfl) rfl
                have k5 := hk_.later 5 _ (by kernel_rfl) rfl
                have k6 := hk_.later 6 _ (by kernel_rfl) rfl
                clear hk_
                refine flow_plain rfl ?_
                have hM := hM_
                simp only [List.map_cons, List.map_nil, k4, k5, k6] at hM
                have hbk : Blk w_ g5 54 (kc x).toArray := by (rw [show w_ = w8.drew from hM]; exact hblk8)
                exact gives_loadA rfl h10 (aggKc hx) (blk_cells hbk) ⟨hM_, rfl⟩
              refine allFrom_cons ?_ ?_
              · refine stepK_by (by decide) ?_
                intro f_ a_ w_ hM_ hk_
                have h39 : a_.eval (.tmp 39) = (.map (some m)) := hk_.got 0 39 _ (by kernel_rfl) rfl rfl
                have h40 : a_.eval (.tmp 40) = (.agg (kc x).toArray) := hk_.got 1 40 _ (by kernel_rfl) rfl rfl
                have k6 := hk_.later 6 _ (by kernel_rfl) rfl
                clear hk_
                refine flow_plain rfl ?_
                have hM := hM_
                simp only [List.map_cons, List.map_nil, k6] at hM
                have hKM : ∃ g, KMap Try.prog 54 w_ m g ∧ (g (.agg (kc x).toArray)).getD (.int .i64 0) = .int .i64 (n : Int) := by
                  revert hM
                  cases f_ 4 with
                  | none => exact fun hM => ⟨f2, by (rw [show w_ = w8.drew from hM]; exact hM9), HCN.out⟩
                  | some v4 =>
                    cases f_ 5 with
                    | none => exact fun ⟨st, _, hE, _⟩ => ⟨_, hE.map, by rw [putV_at]; rfl⟩
                    | some v5 => exact fun ⟨st, _, _, hE, _⟩ => ⟨_, hE.map, by rw [putV_at]; rfl⟩
                obtain ⟨g_, hg1, hg2⟩ := hKM
                exact gives_lookK rfl h39 h40 keyedK hlx Try.underlying83 zeroIntK hg1 ⟨hM_, hg2⟩
              refine allFrom_cons ?_ ?_
              · refine stepK_by (by decide) ?_
                intro f_ a_ w_ hM_ hk_
                have h41 : a_.eval (.tmp 41) = (.int .i64 (n : Int)) := hk_.got 2 41 _ (by kernel_rfl) rfl rfl
                have k6 := hk_.later 6 _ (by kernel_rfl) rfl
                clear hk_
                refine flow_plain rfl ?_
                refine gives_keep hM_ ?_
                unfold gives
                have hc_ : ∀ v, a_.eval (.const v) = v := fun _ => rfl
                have hn_ : ∀ f, a_.eval (.func f) = .func (.func f) #[] #[] := fun _ => rfl
                generalize a_.eval = ρ_ at *
                go_simp
                exact ⟨rfl, rfl⟩
              refine allFrom_cons ?_ ?_
              · intro f_ a_ w_ hM_ hk_
                have h39 : a_.eval (.tmp 39) = (.map (some m)) := hk_.got 0 39 _ (by kernel_rfl) rfl rfl
                have h40 : a_.eval (.tmp 40) = (.agg (kc x).toArray) := hk_.got 1 40 _ (by kernel_rfl) rfl rfl
                have k4 : f_ 4 = none := hk_.un
                have k5 := hk_.later 5 _ (by kernel_rfl) rfl
                have k6 := hk_.later 6 _ (by kernel_rfl) rfl
                clear hk_
                simp only [List.map_cons, List.map_nil, k4, k5, k6] at hM_
                simp only [List.map_cons, List.map_nil, upd_same, upd_ne f_ _ (show (5 : Nat) ≠ 4 by decide), upd_ne f_ _ (show (6 : Nat) ≠ 4 by decide), k5, k6]
                refine flow_plain rfl ?_
                subst hM_
                exact gives_entK rfl h39 h40 keyedK hlx Try.underlying83 zeroIntK hM9 (fun st w1 hE hO => ⟨⟨st, by rw [HCN.out], by rw [HCN.out] at hE; exact hE, hO⟩, trivial⟩)
              refine allFrom_cons ?_ ?_
              · intro f_ a_ w_ hM_ hk_
                have k4 := hk_.val 4 43 _ (by kernel_rfl) rfl rfl
                have k5 : f_ 5 = none := hk_.un
                have k6 := hk_.later 6 _ (by kernel_rfl) rfl
                clear hk_
                simp only [List.map_cons, List.map_nil, k4, k5, k6] at hM_
                simp only [List.map_cons, List.map_nil, upd_same, upd_ne f_ _ (show (4 : Nat) ≠ 5 by decide), upd_ne f_ _ (show (6 : Nat) ≠ 5 by decide), k4, k6]
                refine flow_plain rfl ?_
                obtain ⟨st, he, hE, hO⟩ := hM_
                exact gives_extract rfl he rfl ⟨⟨st, he, rfl, hE, hO⟩, trivial⟩
              refine allFrom_cons ?_ ?_
              · intro f_ a_ w_ hM_ hk_
                have h39 : a_.eval (.tmp 39) = (.map (some m)) := hk_.got 0 39 _ (by kernel_rfl) rfl rfl
                have h42 : a_.eval (.tmp 42) = (.int .i64 ((n : Int) + 1)) := hk_.got 3 42 _ (by kernel_rfl) rfl rfl
                have k4 := hk_.val 4 43 _ (by kernel_rfl) rfl rfl
                have k5 := hk_.val 5 44 _ (by kernel_rfl) rfl rfl
                have k6 : f_ 6 = none := hk_.un
                clear hk_
                simp only [List.map_cons, List.map_nil, k4, k5, k6] at hM_
                simp only [List.map_cons, List.map_nil, upd_same, upd_ne f_ _ (show (4 : Nat) ≠ 6 by decide), upd_ne f_ _ (show (5 : Nat) ≠ 6 by decide), k4, k5]
                refine flow_plain rfl ?_
                obtain ⟨st, he, he5, hE, hO⟩ := hM_
                exact gives_putK rfl h39 he5 h42 hE (fun w1 h1 h2 => ⟨⟨by rw [putV_putV] at h1; exact h1, hO.trans h2⟩, trivial⟩)
              exact allFrom_nil
            intro f_ y_ w_ hM_ hf_ hd_
            have h39 : f_ 39 = (.map (some m)) := (hf_ 0 39 _ (by decide) rfl rfl).1
            have h40 : f_ 40 = (.agg (kc x).toArray) := (hf_ 1 40 _ (by decide) rfl rfl).1
            have h41 : f_ 41 = (.int .i64 (n : Int)) := (hf_ 2 41 _ (by decide) rfl rfl).1
            have h42 : f_ 42 = (.int .i64 ((n : Int) + 1)) := (hf_ 3 42 _ (by decide) rfl rfl).1
            have k4 := (hf_ 4 43 _ (by decide) rfl rfl).2
            have k5 := (hf_ 5 44 _ (by decide) rfl rfl).2
            obtain ⟨x6, k6⟩ := hd_ 6 (by decide)
            simp only [List.map_cons, List.map_nil, k4, k5, k6] at hM_
            simp only [mix, List.drop_succ_cons, List.drop_zero, h39, h40, h41, h42]
            clear hf_ hd_ h39 h40 h41 h42 k4 k5 k6
            obtain ⟨hM10, hO10⟩ := hM_
            have hC10 := cnt_put kc_inj hC2 (x := x)
            rw [← HNN.out, List.append_assoc, ← HTK.out] at hC10
            have hb10 := (bx_drew hb08).trans (hO10.below hmw)
            have hown10 := own_oth hown8 hM8 hO10
            go_wp2
            go_roundw
            case rel => exact ⟨i2 + 1, putV f2 (.agg (kc x).toArray) (.int .i64 ((n : Int) + 1)), by omega, by go_num, hM10, hC10, by rw [HNS.out, List.length_append, List.map_append, List.flatten_append]; simpa using hown10, hb10⟩
            case measure => simp [intOf]; omega
          · have hnm : x ∈ other ++ l.take i2 := by
              by_cases h : x ∈ other ++ l.take i2
              · exact h
              · exact absurd (HNN.out.trans (cntD_zero.2 h)) hn0
            rw [if_pos hnm, List.append_nil] at HNS
            go_wp2_with (first
              | (refine wpList_load_agg rfl _ _ rfl _ _ rfl (kc x) (aggKc hx) (blk_cells hblk6) ?_)
              | (refine wpList_load_agg rfl _ _ rfl _ _ rfl (kc x) (aggKc hx) hd ?_)
              | (refine wpList_alloc rfl _ rfl zrDK ?_; intro g5 w5 hg5 hg5' hblk5 hb5; have hM5 := hM2.below hb5 hM2.lt; have hb05 := bx_trans hbr2 hb5; have hne5 : m ≠ g5 := Nat.ne_of_lt (Nat.lt_of_lt_of_le hM2.lt hg5); have hle5 : w.heap.size ≤ g5 := Nat.le_trans hbr2.size hg5)
              | (refine wpList_store_agg rfl _ _ _ rfl _ _ rfl (kc x).toArray rfl (aggSK hx) hblk5 (szDK hx) (oneAK x) ?_; intro w6 hp6; have hblk6 := putK hx hp6; have hb56 : Below wr.heap.size wr w6 := hb5.trans (hp6.below hg5); have hown6 := own_keep hown hb56; have hM6 := hM5.of_same (hp6.oth m hne5); have hb06 := bx_put hb05 hp6 hle5)
              | (refine wpList_lookK rfl _ _ rfl _ rfl rfl keyedK hlx Try.underlying83 zeroIntK hM6 _ HCN.out ?_))
            have hM8 := hM6
            have hown8 := hown6
            have hblk8 := hblk6
            have hb08 := hb06
            have hM9 : KMap Try.prog 54 w6.drew m f2 := hM8
            refine wp_flowK (by kernel_rfl) [0, 0, 3, 7, 3, 19, 63] 7 [false, false, false, false, false, false, false, false, false, false, false, false, false, false, false, false, false, false, false, false, false, false, false, false, false, false, false, false, false, false, false, false, false, false, false, false, false, false, false, true, true, true, true, true, true] (by kernel_rfl) (by decide) (by kernel_rfl) [KP.eq (.map (some m)), KP.eq (.agg (kc x).toArray), KP.eq (.int .i64 (n : Int)), KP.eq (.int .i64 ((n : Int) + 1)), KP.any, KP.any, KP.any] [4, 5, 6] (fun ks w' => match ks with | [some _, some _, some _] => KMap Try.prog 54 w' m (putV f2 (.agg (kc x).toArray) (.int .i64 ((n : Int) + 1))) ∧ Oth w6.drew w' m | [some v4, some v5, none] => ∃ st : Nat, v4 = .tuple #[.int .i64 (n : Int), .int .i64 (st : Int)] ∧ v5 = .int .i64 (st : Int) ∧ KEnt Try.prog 54 w' m (putV f2 (.agg (kc x).toArray) (.int .i64 (n : Int))) (.agg (kc x).toArray) st ∧ Oth w6.drew w' m | [some v4, none, none] => ∃ st : Nat, v4 = .tuple #[.int .i64 (n : Int), .int .i64 (st : Int)] ∧ KEnt Try.prog 54 w' m (putV f2 (.agg (kc x).toArray) (.int .i64 (n : Int))) (.agg (kc x).toArray) st ∧ Oth w6.drew w' m | _ => w' = w6.drew) ?_ ?_ ?_
            · exact rfl
            · refine allFrom_cons ?_ ?_
              · refine stepK_by (by decide) ?_
                intro f_ a_ w_ hM_ hk_
                have h5 : a_.eval (.tmp 5) = .map (some m) := hk_.old 5 (by kernel_rfl)
                have k4 := hk_.later 4 _ (by kernel_rfl) rfl
                have k5 := hk_.later 5 _ (by kernel_rfl) rfl
                have k6 := hk_.later 6 _ (by kernel_rfl) rfl
                clear hk_
                refine flow_plain rfl ?_
                exact gives_move rfl ⟨hM_, h5⟩
              refine allFrom_cons ?_ ?_
              · refine stepK_by (by decide) ?_
                intro f_ a_ w_ hM_ hk_
                have h10 : a_.eval (.tmp 10) = .pointer (some ⟨g5, 0, none⟩) := hk_.old 10 (by kernel_rfl)
                have k4 := hk_.later 4 _ (by kernel_rfl) rfl
                have k5 := hk_.later 5 _ (by kernel_rfl) rfl
                have k6 := hk_.later 6 _ (by kernel_rfl) rfl
                clear hk_
                refine flow_plain rfl ?_
                have hM := hM_
                simp only [List.map_cons, List.map_nil, k4, k5, k6] at hM
                have hbk : Blk w_ g5 54 (kc x).toArray := by (rw [show w_ = w6.drew from hM]; exact hblk8)
                exact gives_loadA rfl h10 (aggKc hx) (blk_cells hbk) ⟨hM_, rfl⟩
              refine allFrom_cons ?_ ?_
              · refine stepK_by (by decide) ?_
                intro f_ a_ w_ hM_ hk_
                have h39 : a_.eval (.tmp 39) = (.map (some m)) := hk_.got 0 39 _ (by kernel_rfl) rfl rfl
                have h40 : a_.eval (.tmp 40) = (.agg (kc x).toArray) := hk_.got 1 40 _ (by kernel_rfl) rfl rfl
                have k6 := hk_.later 6 _ (by kernel_rfl) rfl
                clear hk_
                refine flow_plain rfl ?_
                have hM := hM_
                simp only [List.map_cons, List.map_nil, k6] at hM
                have hKM : ∃ g, KMap Try.prog 54 w_ m g ∧ (g (.agg (kc x).toArray)).getD (.int .i64 0) = .int .i64 (n : Int) := by
                  revert hM
                  cases f_ 4 with
                  | none => exact fun hM => ⟨f2, by (rw [show w_ = w6.drew from hM]; exact hM9), HCN.out⟩
                  | some v4 =>
                    cases f_ 5 with
                    | none => exact fun ⟨st, _, hE, _⟩ => ⟨_, hE.map, by rw [putV_at]; rfl⟩
                    | some v5 => exact fun ⟨st, _, _, hE, _⟩ => ⟨_, hE.map, by rw [putV_at]; rfl⟩
                obtain ⟨g_, hg1, hg2⟩ := hKM
                exact gives_lookK rfl h39 h40 keyedK hlx Try.underlying83 zeroIntK hg1 ⟨hM_, hg2⟩
              refine allFrom_cons ?_ ?_
              · refine stepK_by (by decide) ?_
                intro f_ a_ w_ hM_ hk_
                have h41 : a_.eval (.tmp 41) = (.int .i64 (n : Int)) := hk_.got 2 41 _ (by kernel_rfl) rfl rfl
                have k6 := hk_.later 6 _ (by kernel_rfl) rfl
                clear hk_
                refine flow_plain rfl ?_
                refine gives_keep hM_ ?_
                unfold gives
                have hc_ : ∀ v, a_.eval (.const v) = v := fun _ => rfl
                have hn_ : ∀ f, a_.eval (.func f) = .func (.func f) #[] #[] := fun _ => rfl
                generalize a_.eval = ρ_ at *
                go_simp
                exact ⟨rfl, rfl⟩
              refine allFrom_cons ?_ ?_
              · intro f_ a_ w_ hM_ hk_
                have h39 : a_.eval (.tmp 39) = (.map (some m)) := hk_.got 0 39 _ (by kernel_rfl) rfl rfl
                have h40 : a_.eval (.tmp 40) = (.agg (kc x).toArray) := hk_.got 1 40 _ (by kernel_rfl) rfl rfl
                have k4 : f_ 4 = none := hk_.un
                have k5 := hk_.later 5 _ (by kernel_rfl) rfl
                have k6 := hk_.later 6 _ (by kernel_rfl) rfl
                clear hk_
                simp only [List.map_cons, List.map_nil, k4, k5, k6] at hM_
                simp only [List.map_cons, List.map_nil, upd_same, upd_ne f_ _ (show (5 : Nat) ≠ 4 by decide), upd_ne f_ _ (show (6 : Nat) ≠ 4 by decide), k5, k6]
                refine flow_plain rfl ?_
                subst hM_
                exact gives_entK rfl h39 h40 keyedK hlx Try.underlying83 zeroIntK hM9 (fun st w1 hE hO => ⟨⟨st, by rw [HCN.out], by rw [HCN.out] at hE; exact hE, hO⟩, trivial⟩)
              refine allFrom_cons ?_ ?_
              · intro f_ a_ w_ hM_ hk_
                have k4 := hk_.val 4 43 _ (by kernel_rfl) rfl rfl
                have k5 : f_ 5 = none := hk_.un
                have k6 := hk_.later 6 _ (by kernel_rfl) rfl
                clear hk_
                simp only [List.map_cons, List.map_nil, k4, k5, k6] at hM_
                simp only [List.map_cons, List.map_nil, upd_same, upd_ne f_ _ (show (4 : Nat) ≠ 5 by decide), upd_ne f_ _ (show (6 : Nat) ≠ 5 by decide), k4, k6]
                refine flow_plain rfl ?_
                obtain ⟨st, he, hE, hO⟩ := hM_
                exact gives_extract rfl he rfl ⟨⟨st, he, rfl, hE, hO⟩, trivial⟩
              refine allFrom_cons ?_ ?_
              · intro f_ a_ w_ hM_ hk_
                have h39 : a_.eval (.tmp 39) = (.map (some m)) := hk_.got 0 39 _ (by kernel_rfl) rfl rfl
                have h42 : a_.eval (.tmp 42) = (.int .i64 ((n : Int) + 1)) := hk_.got 3 42 _ (by kernel_rfl) rfl rfl
                have k4 := hk_.val 4 43 _ (by kernel_rfl) rfl rfl
                have k5 := hk_.val 5 44 _ (by kernel_rfl) rfl rfl
                have k6 : f_ 6 = none := hk_.un
                clear hk_
                simp only [List.map_cons, List.map_nil, k4, k5, k6] at hM_
                simp only [List.map_cons, List.map_nil, upd_same, upd_ne f_ _ (show (4 : Nat) ≠ 6 by decide), upd_ne f_ _ (show (5 : Nat) ≠ 6 by decide), k4, k5]
                refine flow_plain rfl ?_
                obtain ⟨st, he, he5, hE, hO⟩ := hM_
                exact gives_putK rfl h39 he5 h42 hE (fun w1 h1 h2 => ⟨⟨by rw [putV_putV] at h1; exact h1, hO.trans h2⟩, trivial⟩)
              exact allFrom_nil
            intro f_ y_ w_ hM_ hf_ hd_
            have h39 : f_ 39 = (.map (some m)) := (hf_ 0 39 _ (by decide) rfl rfl).1
            have h40 : f_ 40 = (.agg (kc x).toArray) := (hf_ 1 40 _ (by decide) rfl rfl).1
            have h41 : f_ 41 = (.int .i64 (n : Int)) := (hf_ 2 41 _ (by decide) rfl rfl).1
            have h42 : f_ 42 = (.int .i64 ((n : Int) + 1)) := (hf_ 3 42 _ (by decide) rfl rfl).1
            have k4 := (hf_ 4 43 _ (by decide) rfl rfl).2
            have k5 := (hf_ 5 44 _ (by decide) rfl rfl).2
            obtain ⟨x6, k6⟩ := hd_ 6 (by decide)
            simp only [List.map_cons, List.map_nil, k4, k5, k6] at hM_
            simp only [mix, List.drop_succ_cons, List.drop_zero, h39, h40, h41, h42]
            clear hf_ hd_ h39 h40 h41 h42 k4 k5 k6
            obtain ⟨hM10, hO10⟩ := hM_
            have hC10 := cnt_put kc_inj hC2 (x := x)
            rw [← HNN.out, List.append_assoc, ← HTK.out] at hC10
            have hb10 := (bx_drew hb08).trans (hO10.below hmw)
            have hown10 := own_oth hown8 hM8 hO10
            go_wp2
            go_roundw
            case rel => exact ⟨i2 + 1, putV f2 (.agg (kc x).toArray) (.int .i64 ((n : Int) + 1)), by omega, by go_num, hM10, hC10, by rw [HNS.out]; exact hown10, hb10⟩
            case measure => simp [intOf]; omega
        · obtain rfl : i2 = l.length := by omega
          rw [List.take_length] at *
          go_wp2
          go_ret
          exact ⟨.slice A9 (nots l other).length c9, rfl, hown, hbr2⟩
theorem zrDH : ZeroT Try.prog 52 (.agg (hc (List.replicate 32 0)).toArray) := zeroT_of (by kernel_rfl)
theorem zeroSzH : (Value.agg (hc (List.replicate 32 0)).toArray).cells.size = 32 := by simp [Value.cells, hc]
theorem splDH {k : (List UInt8)} (h : hOk k) : spl (Value.agg (hc (List.replicate 32 0)).toArray).cells 0 (hc k).toArray.toList = (hc k).toArray := spl_whole (by
  rw [zeroSzH, List.size_toArray, hc_len h])
theorem szDH {k : (List UInt8)} (h : hOk k) : 0 + (hc k).toArray.size ≤ (Value.agg (hc (List.replicate 32 0)).toArray).cells.size := by
  rw [zeroSzH, List.size_toArray, hc_len h]
  exact Nat.le_refl _
theorem aggSH {k : (List UInt8)} (h : hOk k) : AggT Try.prog 52 (hc k).toArray.size := by rw [List.size_toArray]; exact aggHc h
theorem oneAH (k : (List UInt8)) : ∀ u ∈ (hc k).toArray.toList, u.oneCell' = true := hc_one k
theorem keyOfH' {k : (List UInt8)} (h : hOk k) : ∃ l, keyOf Try.prog 52 (.agg (hc k).toArray) = some l := keyOfH h
theorem zeroIntH : ∀ w, (zeroValue 3).run Try.prog w = .ok (.int .i64 0) w := zeroT_of (by kernel_rfl)
theorem slBH {w : World} {g : Nat} {t : TypeId} {x : (List UInt8)} (h : Blk w g t (flat [Value.agg (hc x).toArray]).toArray) : Blk w g t (hc x).toArray := by rw [flat1] at h; exact h
theorem sl1H {ops : Array Oper} {rest : List Oper} {o : Oper} {a : Act} {w : World} {Q : Exit → Act → World → Prop} (hgd : o.guard = none) (x : Operand) (ho : o.op = .buildSlice 23 1 #[(0, x)]) {k : (List UInt8)} (hk : hOk k) (hx : a.eval x = .agg (hc k).toArray)
    (h : ∀ g w1, w.heap.size ≤ g → Blk w1 g 52 (hc k).toArray → Below w.heap.size w w1 → wpList Try.prog ops Q rest (a.put o.dst (.slice (some ⟨g, 0, none⟩) 1 1)) w1) : wpList Try.prog ops Q (o :: rest) a w :=
  wpList_slN hgd ho [.agg (hc k).toArray] (by simp [hx]) rfl elH (fun u hu => by
    rw [List.mem_singleton] at hu
    subst hu
    show (hc k).toArray.size = 32
    rw [List.size_toArray]
    exact hc_len hk) (by simp) (by simp) (fun g w1 h1 h2 h3 => h g w1 h1 (slBH h2) h3)
theorem sl2H {ops : Array Oper} {rest : List Oper} {o : Oper} {a : Act} {w : World} {Q : Exit → Act → World → Prop} (hgd : o.guard = none) (x y : Operand) (ho : o.op = .buildSlice 23 2 #[(0, x), (1, y)]) {k m : (List UInt8)} (hk : hOk k) (hm : hOk m) (hx : a.eval x = .agg (hc k).toArray) (hy : a.eval y = .agg (hc m).toArray)
    (h : ∀ g w1, w.heap.size ≤ g → Blk w1 g 52 ([k, m].map hc).flatten.toArray → Below w.heap.size w w1 → wpList Try.prog ops Q rest (a.put o.dst (.slice (some ⟨g, 0, none⟩) 2 2)) w1) : wpList Try.prog ops Q (o :: rest) a w :=
  wpList_slN hgd ho [.agg (hc k).toArray, .agg (hc m).toArray] (by simp [hx, hy]) rfl elH (fun u hu => by
    rcases List.mem_cons.1 hu with rfl | hu
    · show (hc k).toArray.size = 32
      rw [List.size_toArray]
      exact hc_len hk
    · rw [List.mem_singleton] at hu
      subst hu
      show (hc m).toArray.size = 32
      rw [List.size_toArray]
      exact hc_len hm) (by simp) (by simp) (fun g w1 h1 h2 h3 => h g w1 h1 (by simpa [flat, Value.cells] using h2) h3)
theorem putH {w w1 : World} {g : Nat} {t : TypeId} {k : (List UInt8)} (h : hOk k) (hp : Put w w1 g t (spl (Value.agg (hc (List.replicate 32 0)).toArray).cells 0 (hc k).toArray.toList)) : Blk w1 g t (hc k).toArray := by
  have := hp.blk
  rw [splDH h] at this
  exact this
set_option maxRecDepth 10000 in
set_option maxHeartbeats 1000000 in
theorem withoutH_any (w : World) {A1 A2 : Option Addr} {c1 c2 : Nat} {l other : List (List UInt8)} (hok1 : ∀ k ∈ l, hOk k) (hok2 : ∀ k ∈ other, hOk k) (hr1 : Rd w w.heap.size A1 (l.map hc).flatten) (hr2 : Rd w w.heap.size A2 (other.map hc).flatten) (hl1 : l.length ≤ 100000) (hl2 : other.length ≤ 100000) :
    Calls Try.prog 27 #[.slice A1 l.length c1, .slice A2 other.length c2] w fun e w' => ∃ v, e = .returned v ∧ w'.ownsRow w.heap.size 52 32 v (nots l other).length ((nots l other).map hc).flatten ∧ Below w.heap.size w w' := by
  have hmm := @run_makeMap Try.prog
  have HR1 := hid hr1
  have HR2 := hid hr2
  have HO1 := hid hok1
  have HO2 := hid hok2
  clear hr1 hr2 hok1 hok2
  go_enter Try.func27, Try.ntmps27
  go_wp2
  clear hmm
  have hM0 := kmap_new Try.prog 52 w
  have hB0 : Below w.heap.size w (w.alloc (.map #[] 0)) := bx_alloc (Below.refl _ _) _
  obtain ⟨m, hm⟩ : ∃ m, m = w.heap.size := ⟨_, rfl⟩
  have hmw : w.heap.size ≤ m := by omega
  rw [← hm] at hM0
  rw [← hm]
  generalize w.alloc (.map #[] 0) = w1 at *
  clear hm
  go_loopw [14] (fun j wr => ∃ (i : Nat) (f : Value → Option Value), i ≤ other.length ∧ j = .int .i64 i ∧ KMap Try.prog 52 wr m f ∧ Cnt hc hOk f (other.take i) ∧ Below w.heap.size w wr) (fun j _ => other.length - (intOf j).toNat)
  case atStart => exact ⟨0, _, by omega, rfl, hM0, cnt_nil _ _, hB0⟩
  case round =>
    obtain ⟨i, f, hi, rfl, hM, hC, hbr⟩ := hrel
    clear hM0 hB0
    by_cases hlt : i < other.length
    · obtain ⟨b, off, rfl, hbb, hd⟩ := rd_item (i := i) (HR2.out.below hbr) (mapLenH HO2.out) (by decide) (by rw [List.length_map]; exact hlt)
      rw [List.getElem_map] at hd
      have hx := HO2.out _ (List.getElem_mem hlt)
      have htk : other.take (i + 1) = other.take i ++ [other[i]] := List.take_succ_eq_append_getElem hlt
      have HTK := hid htk
      clear htk
      generalize other[i] = x at *
      obtain ⟨lx, hlx⟩ := keyOfH' hx
      obtain ⟨n, hn⟩ : ∃ n, n = cntD x (other.take i) := ⟨_, rfl⟩
      have hcn := cnt_getD hC hx
      rw [← hn] at hcn
      have hn1 : n ≤ 100000 := by rw [hn]; have := cntD_le x (other.take i); rw [List.length_take] at this; omega
      have hwn : IntKind.i64.wrap ((n : Int) + 1) = (n : Int) + 1 := wr_i64 _ (by omega) (by omega)
      have HCN := hid hcn
      have HNN := hid hn
      clear hcn hn
      go_wp2_with (first
        | (refine wpList_load_agg rfl _ _ rfl _ _ rfl (hc x) (aggHc hx) hd ?_)
        | (refine wpList_alloc rfl _ rfl zrDH ?_; intro g5 w5 hg5 hg5' hblk5 hb5; have hM5 := hM.below hb5 hM.lt; have hb05 := bx_trans hbr hb5; have hne5 : m ≠ g5 := Nat.ne_of_lt (Nat.lt_of_lt_of_le hM.lt hg5); have hle5 : w.heap.size ≤ g5 := Nat.le_trans hbr.size hg5)
        | (refine wpList_store_agg rfl _ _ _ rfl _ _ rfl (hc x).toArray rfl (aggSH hx) hblk5 (szDH hx) (oneAH x) ?_; intro w6 hp6; have hblk6 := putH hx hp6; have hM6 := hM5.of_same (hp6.oth m hne5); have hb06 := bx_put hb05 hp6 hle5))
      have hM7 : KMap Try.prog 52 w6.drew m f := hM6
      refine wp_flowK (by kernel_rfl) [0, 0, 3, 7, 3, 19, 63] 7 [false, false, false, false, false, false, false, false, false, false, false, false, false, false, false, false, false, false, true, true, true, true, true, true] (by kernel_rfl) (by decide) (by kernel_rfl) [KP.eq (.map (some m)), KP.eq (.agg (hc x).toArray), KP.eq (.int .i64 (n : Int)), KP.eq (.int .i64 ((n : Int) + 1)), KP.any, KP.any, KP.any] [4, 5, 6] (fun ks w' => match ks with | [some _, some _, some _] => KMap Try.prog 52 w' m (putV f (.agg (hc x).toArray) (.int .i64 ((n : Int) + 1))) ∧ Oth w6.drew w' m | [some v4, some v5, none] => ∃ st : Nat, v4 = .tuple #[.int .i64 (n : Int), .int .i64 (st : Int)] ∧ v5 = .int .i64 (st : Int) ∧ KEnt Try.prog 52 w' m (putV f (.agg (hc x).toArray) (.int .i64 (n : Int))) (.agg (hc x).toArray) st ∧ Oth w6.drew w' m | [some v4, none, none] => ∃ st : Nat, v4 = .tuple #[.int .i64 (n : Int), .int .i64 (st : Int)] ∧ KEnt Try.prog 52 w' m (putV f (.agg (hc x).toArray) (.int .i64 (n : Int))) (.agg (hc x).toArray) st ∧ Oth w6.drew w' m | _ => w' = w6.drew) ?_ ?_ ?_
      · exact rfl
      · refine allFrom_cons ?_ ?_
        · refine stepK_by (by decide) ?_
          intro f_ a_ w_ hM_ hk_
          have h5 : a_.eval (.tmp 5) = .map (some m) := hk_.old 5 (by kernel_rfl)
          have k4 := hk_.later 4 _ (by kernel_rfl) rfl
          have k5 := hk_.later 5 _ (by kernel_rfl) rfl
          have k6 := hk_.later 6 _ (by kernel_rfl) rfl
          clear hk_
          refine flow_plain rfl ?_
          exact gives_move rfl ⟨hM_, h5⟩
        refine allFrom_cons ?_ ?_
        · refine stepK_by (by decide) ?_
          intro f_ a_ w_ hM_ hk_
          have h7 : a_.eval (.tmp 7) = .pointer (some ⟨g5, 0, none⟩) := hk_.old 7 (by kernel_rfl)
          have k4 := hk_.later 4 _ (by kernel_rfl) rfl
          have k5 := hk_.later 5 _ (by kernel_rfl) rfl
          have k6 := hk_.later 6 _ (by kernel_rfl) rfl
          clear hk_
          refine flow_plain rfl ?_
          have hM := hM_
          simp only [List.map_cons, List.map_nil, k4, k5, k6] at hM
          have hbk : Blk w_ g5 52 (hc x).toArray := by (rw [show w_ = w6.drew from hM]; exact hblk6)
          exact gives_loadA rfl h7 (aggHc hx) (blk_cells hbk) ⟨hM_, rfl⟩
        refine allFrom_cons ?_ ?_
        · refine stepK_by (by decide) ?_
          intro f_ a_ w_ hM_ hk_
          have h18 : a_.eval (.tmp 18) = (.map (some m)) := hk_.got 0 18 _ (by kernel_rfl) rfl rfl
          have h19 : a_.eval (.tmp 19) = (.agg (hc x).toArray) := hk_.got 1 19 _ (by kernel_rfl) rfl rfl
          have k6 := hk_.later 6 _ (by kernel_rfl) rfl
          clear hk_
          refine flow_plain rfl ?_
          have hM := hM_
          simp only [List.map_cons, List.map_nil, k6] at hM
          have hKM : ∃ g, KMap Try.prog 52 w_ m g ∧ (g (.agg (hc x).toArray)).getD (.int .i64 0) = .int .i64 (n : Int) := by
            revert hM
            cases f_ 4 with
            | none => exact fun hM => ⟨f, by (rw [show w_ = w6.drew from hM]; exact hM7), HCN.out⟩
            | some v4 =>
              cases f_ 5 with
              | none => exact fun ⟨st, _, hE, _⟩ => ⟨_, hE.map, by rw [putV_at]; rfl⟩
              | some v5 => exact fun ⟨st, _, _, hE, _⟩ => ⟨_, hE.map, by rw [putV_at]; rfl⟩
          obtain ⟨g_, hg1, hg2⟩ := hKM
          exact gives_lookK rfl h18 h19 keyedH hlx Try.underlying84 zeroIntH hg1 ⟨hM_, hg2⟩
        refine allFrom_cons ?_ ?_
        · refine stepK_by (by decide) ?_
          intro f_ a_ w_ hM_ hk_
          have h20 : a_.eval (.tmp 20) = (.int .i64 (n : Int)) := hk_.got 2 20 _ (by kernel_rfl) rfl rfl
          have k6 := hk_.later 6 _ (by kernel_rfl) rfl
          clear hk_
          refine flow_plain rfl ?_
          refine gives_keep hM_ ?_
          unfold gives
          have hc_ : ∀ v, a_.eval (.const v) = v := fun _ => rfl
          have hn_ : ∀ f, a_.eval (.func f) = .func (.func f) #[] #[] := fun _ => rfl
          generalize a_.eval = ρ_ at *
          go_simp
          exact ⟨rfl, rfl⟩
        refine allFrom_cons ?_ ?_
        · intro f_ a_ w_ hM_ hk_
          have h18 : a_.eval (.tmp 18) = (.map (some m)) := hk_.got 0 18 _ (by kernel_rfl) rfl rfl
          have h19 : a_.eval (.tmp 19) = (.agg (hc x).toArray) := hk_.got 1 19 _ (by kernel_rfl) rfl rfl
          have k4 : f_ 4 = none := hk_.un
          have k5 := hk_.later 5 _ (by kernel_rfl) rfl
          have k6 := hk_.later 6 _ (by kernel_rfl) rfl
          clear hk_
          simp only [List.map_cons, List.map_nil, k4, k5, k6] at hM_
          simp only [List.map_cons, List.map_nil, upd_same, upd_ne f_ _ (show (5 : Nat) ≠ 4 by decide), upd_ne f_ _ (show (6 : Nat) ≠ 4 by decide), k5, k6]
          refine flow_plain rfl ?_
          subst hM_
          exact gives_entK rfl h18 h19 keyedH hlx Try.underlying84 zeroIntH hM7 (fun st w1 hE hO => ⟨⟨st, by rw [HCN.out], by rw [HCN.out] at hE; exact hE, hO⟩, trivial⟩)
        refine allFrom_cons ?_ ?_
        · intro f_ a_ w_ hM_ hk_
          have k4 := hk_.val 4 22 _ (by kernel_rfl) rfl rfl
          have k5 : f_ 5 = none := hk_.un
          have k6 := hk_.later 6 _ (by kernel_rfl) rfl
          clear hk_
          simp only [List.map_cons, List.map_nil, k4, k5, k6] at hM_
          simp only [List.map_cons, List.map_nil, upd_same, upd_ne f_ _ (show (4 : Nat) ≠ 5 by decide), upd_ne f_ _ (show (6 : Nat) ≠ 5 by decide), k4, k6]
          refine flow_plain rfl ?_
          obtain ⟨st, he, hE, hO⟩ := hM_
          exact gives_extract rfl he rfl ⟨⟨st, he, rfl, hE, hO⟩, trivial⟩
        refine allFrom_cons ?_ ?_
        · intro f_ a_ w_ hM_ hk_
          have h18 : a_.eval (.tmp 18) = (.map (some m)) := hk_.got 0 18 _ (by kernel_rfl) rfl rfl
          have h21 : a_.eval (.tmp 21) = (.int .i64 ((n : Int) + 1)) := hk_.got 3 21 _ (by kernel_rfl) rfl rfl
          have k4 := hk_.val 4 22 _ (by kernel_rfl) rfl rfl
          have k5 := hk_.val 5 23 _ (by kernel_rfl) rfl rfl
          have k6 : f_ 6 = none := hk_.un
          clear hk_
          simp only [List.map_cons, List.map_nil, k4, k5, k6] at hM_
          simp only [List.map_cons, List.map_nil, upd_same, upd_ne f_ _ (show (4 : Nat) ≠ 6 by decide), upd_ne f_ _ (show (5 : Nat) ≠ 6 by decide), k4, k5]
          refine flow_plain rfl ?_
          obtain ⟨st, he, he5, hE, hO⟩ := hM_
          exact gives_putK rfl h18 he5 h21 hE (fun w1 h1 h2 => ⟨⟨by rw [putV_putV] at h1; exact h1, hO.trans h2⟩, trivial⟩)
        exact allFrom_nil
      intro f_ y_ w_ hM_ hf_ hd_
      have h18 : f_ 18 = (.map (some m)) := (hf_ 0 18 _ (by decide) rfl rfl).1
      have h19 : f_ 19 = (.agg (hc x).toArray) := (hf_ 1 19 _ (by decide) rfl rfl).1
      have h20 : f_ 20 = (.int .i64 (n : Int)) := (hf_ 2 20 _ (by decide) rfl rfl).1
      have h21 : f_ 21 = (.int .i64 ((n : Int) + 1)) := (hf_ 3 21 _ (by decide) rfl rfl).1
      have k4 := (hf_ 4 22 _ (by decide) rfl rfl).2
      have k5 := (hf_ 5 23 _ (by decide) rfl rfl).2
      obtain ⟨x6, k6⟩ := hd_ 6 (by decide)
      simp only [List.map_cons, List.map_nil, k4, k5, k6] at hM_
      simp only [mix, List.drop_succ_cons, List.drop_zero, h18, h19, h20, h21]
      clear hf_ hd_ h18 h19 h20 h21 k4 k5 k6
      obtain ⟨hM8, hO8⟩ := hM_
      have hb08 := (bx_drew hb06).trans (hO8.below hmw)
      have hC8 := cnt_put hc_inj hC (x := x)
      rw [← HNN.out, ← HTK.out] at hC8
      go_wp2
      go_roundw
      case rel => exact ⟨i + 1, putV f (.agg (hc x).toArray) (.int .i64 ((n : Int) + 1)), by omega, by go_num, hM8, hC8, hb08⟩
      case measure => simp [intOf]; omega
    · have hio : i = other.length := by omega
      subst hio
      rw [List.take_length] at hC
      go_wp2
      go_loopw [8, 27] (fun v j wr => ∃ (i : Nat) (f : Value → Option Value), i ≤ l.length ∧ j = .int .i64 i ∧ KMap Try.prog 52 wr m f ∧ Cnt hc hOk f (other ++ l.take i) ∧ wr.ownsRow w.heap.size 52 32 v (nots (l.take i) other).length ((nots (l.take i) other).map hc).flatten ∧ Below w.heap.size w wr) (fun _ j _ => l.length - (intOf j).toNat)
      case atStart => exact ⟨0, f, by omega, rfl, hM, by simpa using hC, World.ownsRow_nil _ _ _ _, hbr⟩
      case round =>
        obtain ⟨i2, f2, hi2, rfl, hM2, hC2, hown, hbr2⟩ := hrel
        obtain ⟨A9, c9, rfl, _, _, _⟩ := own_form hown
        clear hM hC hbr
        by_cases hlt2 : i2 < l.length
        · obtain ⟨b, off, rfl, hbb, hd⟩ := rd_item (i := i2) (HR1.out.below hbr2) (mapLenH HO1.out) (by decide) (by rw [List.length_map]; exact hlt2)
          rw [List.getElem_map] at hd
          have hx := HO1.out _ (List.getElem_mem hlt2)
          have htk : l.take (i2 + 1) = l.take i2 ++ [l[i2]] := List.take_succ_eq_append_getElem hlt2
          have hns := nots_snoc (l.take i2) other l[i2]
          have hnl : (nots (l.take i2) other).length ≤ 100000 := by have := nots_len other (l.take i2) []; rw [List.length_take] at this; show (notsL other [] (l.take i2)).length ≤ _; omega
          have HTK := hid htk
          rw [← htk] at hns
          have HNS := hid hns
          clear htk hns
          generalize l[i2] = x at *
          obtain ⟨lx, hlx⟩ := keyOfH' hx
          obtain ⟨n, hn⟩ : ∃ n, n = cntD x (other ++ l.take i2) := ⟨_, rfl⟩
          have hcn := cnt_getD hC2 hx
          rw [← hn] at hcn
          have hn1 : n ≤ 200000 := by rw [hn]; have := cntD_le x (other ++ l.take i2); rw [List.length_append, List.length_take] at this; omega
          have hwn : IntKind.i64.wrap ((n : Int) + 1) = (n : Int) + 1 := wr_i64 _ (by omega) (by omega)
          have HCN := hid hcn
          have HNN := hid hn
          clear hcn hn
          by_cases hn0 : n = 0
          · have hnm : x ∉ other ++ l.take i2 := cntD_zero.1 (by rw [← HNN.out]; exact hn0)
            rw [if_neg hnm] at HNS
            have hv5 : ∀ g5, wr.heap.size ≤ g5 → (Value.slice A9 (nots (l.take i2) other).length c9).ownBlock ≠ some g5 := fun g5 hg e => Nat.lt_irrefl _ (Nat.lt_of_lt_of_le (hown.lt _ e).2 hg)
            go_wp2_with (first
              | (refine wpList_load_agg rfl _ _ rfl _ _ rfl (hc x) (aggHc hx) (blk_cells hblk6) ?_)
              | (refine wpList_load_agg rfl _ _ rfl _ _ rfl (hc x) (aggHc hx) hd ?_)
              | (refine wpList_alloc rfl _ rfl zrDH ?_; intro g5 w5 hg5 hg5' hblk5 hb5; have hM5 := hM2.below hb5 hM2.lt; have hb05 := bx_trans hbr2 hb5; have hne5 : m ≠ g5 := Nat.ne_of_lt (Nat.lt_of_lt_of_le hM2.lt hg5); have hle5 : w.heap.size ≤ g5 := Nat.le_trans hbr2.size hg5)
              | (refine wpList_store_agg rfl _ _ _ rfl _ _ rfl (hc x).toArray rfl (aggSH hx) hblk5 (szDH hx) (oneAH x) ?_; intro w6 hp6; have hblk6 := putH hx hp6; have hb56 : Below wr.heap.size wr w6 := hb5.trans (hp6.below hg5); have hown6 := own_keep hown hb56; have hM6 := hM5.of_same (hp6.oth m hne5); have hb06 := bx_put hb05 hp6 hle5)
              | (refine wpList_lookK rfl _ _ rfl _ rfl rfl keyedH hlx Try.underlying84 zeroIntH hM6 _ HCN.out ?_)
              | (refine sl1H rfl _ rfl hx rfl ?_; intro g7 w7 hg7 hblk7 hb7; have hr7 := rd_blk hblk7; have hown7 := own_keep hown6 hb7; have hM7 := hM6.below hb7 hM6.lt; have hblk57 := hblk6.below hb7 hblk6.lt; have hb07 := bx_trans hb06 hb7)
              | (at_builtin; refine wpList_app rfl _ _ _ rfl (Value.slice A9 (nots (l.take i2) other).length c9) rfl _ _ _ rfl elH hown7 hr7 (by rw [hc_len hx]) (hc_one x) (by unfold maxLen; omega) (by omega) hb07.size ?_; intro v8 w8 hown8 hgr8 hv8; have hb08 := own_below hb07 hown7 hgr8; have hM8 := hM7.of_same (hgr8.block m hM7.lt (fun e => own_map hown7 hM7 e.symm)); have hblk8 : Blk w8 g5 52 (hc x).toArray := (hgr8.block g5 hblk57.lt (fun e => hv5 g5 hg5 e.symm)).trans hblk57))
            have hM9 : KMap Try.prog 52 w8.drew m f2 := hM8
            refine wp_flowK (by kernel_rfl) [0, 0, 3, 7, 3, 19, 63] 7 [false, false, false, false, false, false, false, false, false, false, false, false, false, false, false, false, false, false, false, false, false, false, false, false, false, false, false, false, false, false, false, false, false, false, false, false, false, false, false, true, true, true, true, true, true] (by kernel_rfl) (by decide) (by kernel_rfl) [KP.eq (.map (some m)), KP.eq (.agg (hc x).toArray), KP.eq (.int .i64 (n : Int)), KP.eq (.int .i64 ((n : Int) + 1)), KP.any, KP.any, KP.any] [4, 5, 6] (fun ks w' => match ks with | [some _, some _, some _] => KMap Try.prog 52 w' m (putV f2 (.agg (hc x).toArray) (.int .i64 ((n : Int) + 1))) ∧ Oth w8.drew w' m | [some v4, some v5, none] => ∃ st : Nat, v4 = .tuple #[.int .i64 (n : Int), .int .i64 (st : Int)] ∧ v5 = .int .i64 (st : Int) ∧ KEnt Try.prog 52 w' m (putV f2 (.agg (hc x).toArray) (.int .i64 (n : Int))) (.agg (hc x).toArray) st ∧ Oth w8.drew w' m | [some v4, none, none] => ∃ st : Nat, v4 = .tuple #[.int .i64 (n : Int), .int .i64 (st : Int)] ∧ KEnt Try.prog 52 w' m (putV f2 (.agg (hc x).toArray) (.int .i64 (n : Int))) (.agg (hc x).toArray) st ∧ Oth w8.drew w' m | _ => w' = w8.drew) ?_ ?_ ?_
            · exact rfl
            · refine allFrom_cons ?_ ?_
              · refine stepK_by (by decide) ?_
                intro f_ a_ w_ hM_ hk_
                have h5 : a_.eval (.tmp 5) = .map (some m) := hk_.old 5 (by kernel_rfl)
                have k4 := hk_.later 4 _ (by kernel_rfl) rfl
                have k5 := hk_.later 5 _ (by kernel_rfl) rfl
                have k6 := hk_.later 6 _ (by kernel_rfl) rfl
                clear hk_
                refine flow_plain rfl ?_
                exact gives_move rfl ⟨hM_, h5⟩
              refine allFrom_cons ?_ ?_
              · refine stepK_by (by decide) ?_
                intro f_ a_ w_ hM_ hk_
                have h10 : a_.eval (.tmp 10) = .pointer (some ⟨g5, 0, none⟩) := hk_.old 10 (by kernel_rfl)
                have k4 := hk_.later 4 _ (by kernel_rfl) rfl
                have k5 := hk_.later 5 _ (by kernel_rfl) rfl
                have k6 := hk_.later 6 _ (by kernel_rfl) rfl
                clear hk_
                refine flow_plain rfl ?_
                have hM := hM_
                simp only [List.map_cons, List.map_nil, k4, k5, k6] at hM
                have hbk : Blk w_ g5 52 (hc x).toArray := by (rw [show w_ = w8.drew from hM]; exact hblk8)
                exact gives_loadA rfl h10 (aggHc hx) (blk_cells hbk) ⟨hM_, rfl⟩
              refine allFrom_cons ?_ ?_
              · refine stepK_by (by decide) ?_
                intro f_ a_ w_ hM_ hk_
                have h39 : a_.eval (.tmp 39) = (.map (some m)) := hk_.got 0 39 _ (by kernel_rfl) rfl rfl
                have h40 : a_.eval (.tmp 40) = (.agg (hc x).toArray) := hk_.got 1 40 _ (by kernel_rfl) rfl rfl
                have k6 := hk_.later 6 _ (by kernel_rfl) rfl
                clear hk_
                refine flow_plain rfl ?_
                have hM := hM_
                simp only [List.map_cons, List.map_nil, k6] at hM
                have hKM : ∃ g, KMap Try.prog 52 w_ m g ∧ (g (.agg (hc x).toArray)).getD (.int .i64 0) = .int .i64 (n : Int) := by
                  revert hM
                  cases f_ 4 with
                  | none => exact fun hM => ⟨f2, by (rw [show w_ = w8.drew from hM]; exact hM9), HCN.out⟩
                  | some v4 =>
                    cases f_ 5 with
                    | none => exact fun ⟨st, _, hE, _⟩ => ⟨_, hE.map, by rw [putV_at]; rfl⟩
                    | some v5 => exact fun ⟨st, _, _, hE, _⟩ => ⟨_, hE.map, by rw [putV_at]; rfl⟩
                obtain ⟨g_, hg1, hg2⟩ := hKM
                exact gives_lookK rfl h39 h40 keyedH hlx Try.underlying84 zeroIntH hg1 ⟨hM_, hg2⟩
              refine allFrom_cons ?_ ?_
              · refine stepK_by (by decide) ?_
                intro f_ a_ w_ hM_ hk_
                have h41 : a_.eval (.tmp 41) = (.int .i64 (n : Int)) := hk_.got 2 41 _ (by kernel_rfl) rfl rfl
                have k6 := hk_.later 6 _ (by kernel_rfl) rfl
                clear hk_
                refine flow_plain rfl ?_
                refine gives_keep hM_ ?_
                unfold gives
                have hc_ : ∀ v, a_.eval (.const v) = v := fun _ => rfl
                have hn_ : ∀ f, a_.eval (.func f) = .func (.func f) #[] #[] := fun _ => rfl
                generalize a_.eval = ρ_ at *
                go_simp
                exact ⟨rfl, rfl⟩
              refine allFrom_cons ?_ ?_
              · intro f_ a_ w_ hM_ hk_
                have h39 : a_.eval (.tmp 39) = (.map (some m)) := hk_.got 0 39 _ (by kernel_rfl) rfl rfl
                have h40 : a_.eval (.tmp 40) = (.agg (hc x).toArray) := hk_.got 1 40 _ (by kernel_rfl) rfl rfl
                have k4 : f_ 4 = none := hk_.un
                have k5 := hk_.later 5 _ (by kernel_rfl) rfl
                have k6 := hk_.later 6 _ (by kernel_rfl) rfl
                clear hk_
                simp only [List.map_cons, List.map_nil, k4, k5, k6] at hM_
                simp only [List.map_cons, List.map_nil, upd_same, upd_ne f_ _ (show (5 : Nat) ≠ 4 by decide), upd_ne f_ _ (show (6 : Nat) ≠ 4 by decide), k5, k6]
                refine flow_plain rfl ?_
                subst hM_
                exact gives_entK rfl h39 h40 keyedH hlx Try.underlying84 zeroIntH hM9 (fun st w1 hE hO => ⟨⟨st, by rw [HCN.out], by rw [HCN.out] at hE; exact hE, hO⟩, trivial⟩)
              refine allFrom_cons ?_ ?_
              · intro f_ a_ w_ hM_ hk_
                have k4 := hk_.val 4 43 _ (by kernel_rfl) rfl rfl
                have k5 : f_ 5 = none := hk_.un
                have k6 := hk_.later 6 _ (by kernel_rfl) rfl
                clear hk_
                simp only [List.map_cons, List.map_nil, k4, k5, k6] at hM_
                simp only [List.map_cons, List.map_nil, upd_same, upd_ne f_ _ (show (4 : Nat) ≠ 5 by decide), upd_ne f_ _ (show (6 : Nat) ≠ 5 by decide), k4, k6]
                refine flow_plain rfl ?_
                obtain ⟨st, he, hE, hO⟩ := hM_
                exact gives_extract rfl he rfl ⟨⟨st, he, rfl, hE, hO⟩, trivial⟩
              refine allFrom_cons ?_ ?_
              · intro f_ a_ w_ hM_ hk_
                have h39 : a_.eval (.tmp 39) = (.map (some m)) := hk_.got 0 39 _ (by kernel_rfl) rfl rfl
                have h42 : a_.eval (.tmp 42) = (.int .i64 ((n : Int) + 1)) := hk_.got 3 42 _ (by kernel_rfl) rfl rfl
                have k4 := hk_.val 4 43 _ (by kernel_rfl) rfl rfl
                have k5 := hk_.val 5 44 _ (by kernel_rfl) rfl rfl
                have k6 : f_ 6 = none := hk_.un
                clear hk_
                simp only [List.map_cons, List.map_nil, k4, k5, k6] at hM_
                simp only [List.map_cons, List.map_nil, upd_same, upd_ne f_ _ (show (4 : Nat) ≠ 6 by decide), upd_ne f_ _ (show (5 : Nat) ≠ 6 by decide), k4, k5]
                refine flow_plain rfl ?_
                obtain ⟨st, he, he5, hE, hO⟩ := hM_
                exact gives_putK rfl h39 he5 h42 hE (fun w1 h1 h2 => ⟨⟨by rw [putV_putV] at h1; exact h1, hO.trans h2⟩, trivial⟩)
              exact allFrom_nil
            intro f_ y_ w_ hM_ hf_ hd_
            have h39 : f_ 39 = (.map (some m)) := (hf_ 0 39 _ (by decide) rfl rfl).1
            have h40 : f_ 40 = (.agg (hc x).toArray) := (hf_ 1 40 _ (by decide) rfl rfl).1
            have h41 : f_ 41 = (.int .i64 (n : Int)) := (hf_ 2 41 _ (by decide) rfl rfl).1
            have h42 : f_ 42 = (.int .i64 ((n : Int) + 1)) := (hf_ 3 42 _ (by decide) rfl rfl).1
            have k4 := (hf_ 4 43 _ (by decide) rfl rfl).2
            have k5 := (hf_ 5 44 _ (by decide) rfl rfl).2
            obtain ⟨x6, k6⟩ := hd_ 6 (by decide)
            simp only [List.map_cons, List.map_nil, k4, k5, k6] at hM_
            simp only [mix, List.drop_succ_cons, List.drop_zero, h39, h40, h41, h42]
            clear hf_ hd_ h39 h40 h41 h42 k4 k5 k6
            obtain ⟨hM10, hO10⟩ := hM_
            have hC10 := cnt_put hc_inj hC2 (x := x)
            rw [← HNN.out, List.append_assoc, ← HTK.out] at hC10
            have hb10 := (bx_drew hb08).trans (hO10.below hmw)
            have hown10 := own_oth hown8 hM8 hO10
            go_wp2
            go_roundw
            case rel => exact ⟨i2 + 1, putV f2 (.agg (hc x).toArray) (.int .i64 ((n : Int) + 1)), by omega, by go_num, hM10, hC10, by rw [HNS.out, List.length_append, List.map_append, List.flatten_append]; simpa using hown10, hb10⟩
            case measure => simp [intOf]; omega
          · have hnm : x ∈ other ++ l.take i2 := by
              by_cases h : x ∈ other ++ l.take i2
              · exact h
              · exact absurd (HNN.out.trans (cntD_zero.2 h)) hn0
            rw [if_pos hnm, List.append_nil] at HNS
            go_wp2_with (first
              | (refine wpList_load_agg rfl _ _ rfl _ _ rfl (hc x) (aggHc hx) (blk_cells hblk6) ?_)
              | (refine wpList_load_agg rfl _ _ rfl _ _ rfl (hc x) (aggHc hx) hd ?_)
              | (refine wpList_alloc rfl _ rfl zrDH ?_; intro g5 w5 hg5 hg5' hblk5 hb5; have hM5 := hM2.below hb5 hM2.lt; have hb05 := bx_trans hbr2 hb5; have hne5 : m ≠ g5 := Nat.ne_of_lt (Nat.lt_of_lt_of_le hM2.lt hg5); have hle5 : w.heap.size ≤ g5 := Nat.le_trans hbr2.size hg5)
              | (refine wpList_store_agg rfl _ _ _ rfl _ _ rfl (hc x).toArray rfl (aggSH hx) hblk5 (szDH hx) (oneAH x) ?_; intro w6 hp6; have hblk6 := putH hx hp6; have hb56 : Below wr.heap.size wr w6 := hb5.trans (hp6.below hg5); have hown6 := own_keep hown hb56; have hM6 := hM5.of_same (hp6.oth m hne5); have hb06 := bx_put hb05 hp6 hle5)
              | (refine wpList_lookK rfl _ _ rfl _ rfl rfl keyedH hlx Try.underlying84 zeroIntH hM6 _ HCN.out ?_))
            have hM8 := hM6
            have hown8 := hown6
            have hblk8 := hblk6
            have hb08 := hb06
            have hM9 : KMap Try.prog 52 w6.drew m f2 := hM8
            refine wp_flowK (by kernel_rfl) [0, 0, 3, 7, 3, 19, 63] 7 [false, false, false, false, false, false, false, false, false, false, false, false, false, false, false, false, false, false, false, false, false, false, false, false, false, false, false, false, false, false, false, false, false, false, false, false, false, false, false, true, true, true, true, true, true] (by kernel_rfl) (by decide) (by kernel_rfl) [KP.eq (.map (some m)), KP.eq (.agg (hc x).toArray), KP.eq (.int .i64 (n : Int)), KP.eq (.int .i64 ((n : Int) + 1)), KP.any, KP.any, KP.any] [4, 5, 6] (fun ks w' => match ks with | [some _, some _, some _] => KMap Try.prog 52 w' m (putV f2 (.agg (hc x).toArray) (.int .i64 ((n : Int) + 1))) ∧ Oth w6.drew w' m | [some v4, some v5, none] => ∃ st : Nat, v4 = .tuple #[.int .i64 (n : Int), .int .i64 (st : Int)] ∧ v5 = .int .i64 (st : Int) ∧ KEnt Try.prog 52 w' m (putV f2 (.agg (hc x).toArray) (.int .i64 (n : Int))) (.agg (hc x).toArray) st ∧ Oth w6.drew w' m | [some v4, none, none] => ∃ st : Nat, v4 = .tuple #[.int .i64 (n : Int), .int .i64 (st : Int)] ∧ KEnt Try.prog 52 w' m (putV f2 (.agg (hc x).toArray) (.int .i64 (n : Int))) (.agg (hc x).toArray) st ∧ Oth w6.drew w' m | _ => w' = w6.drew) ?_ ?_ ?_
            · exact rfl
            · refine allFrom_cons ?_ ?_
              · refine stepK_by (by decide) ?_
                intro f_ a_ w_ hM_ hk_
                have h5 : a_.eval (.tmp 5) = .map (some m) := hk_.old 5 (by kernel_rfl)
                have k4 := hk_.later 4 _ (by kernel_rfl) rfl
                have k5 := hk_.later 5 _ (by kernel_rfl) rfl
                have k6 := hk_.later 6 _ (by kernel_rfl) rfl
                clear hk_
                refine flow_plain rfl ?_
                exact gives_move rfl ⟨hM_, h5⟩
              refine allFrom_cons ?_ ?_
              · refine stepK_by (by decide) ?_
                intro f_ a_ w_ hM_ hk_
                have h10 : a_.eval (.tmp 10) = .pointer (some ⟨g5, 0, none⟩) := hk_.old 10 (by kernel_rfl)
                have k4 := hk_.later 4 _ (by kernel_rfl) rfl
                have k5 := hk_.later 5 _ (by kernel_rfl) rfl
                have k6 := hk_.later 6 _ (by kernel_rfl) rfl
                clear hk_
                refine flow_plain rfl ?_
                have hM := hM_
                simp only [List.map_cons, List.map_nil, k4, k5, k6] at hM
                have hbk : Blk w_ g5 52 (hc x).toArray := by (rw [show w_ = w6.drew from hM]; exact hblk8)
                exact gives_loadA rfl h10 (aggHc hx) (blk_cells hbk) ⟨hM_, rfl⟩
              refine allFrom_cons ?_ ?_
              · refine stepK_by (by decide) ?_
                intro f_ a_ w_ hM_ hk_
                have h39 : a_.eval (.tmp 39) = (.map (some m)) := hk_.got 0 39 _ (by kernel_rfl) rfl rfl
                have h40 : a_.eval (.tmp 40) = (.agg (hc x).toArray) := hk_.got 1 40 _ (by kernel_rfl) rfl rfl
                have k6 := hk_.later 6 _ (by kernel_rfl) rfl
                clear hk_
                refine flow_plain rfl ?_
                have hM := hM_
                simp only [List.map_cons, List.map_nil, k6] at hM
                have hKM : ∃ g, KMap Try.prog 52 w_ m g ∧ (g (.agg (hc x).toArray)).getD (.int .i64 0) = .int .i64 (n : Int) := by
                  revert hM
                  cases f_ 4 with
                  | none => exact fun hM => ⟨f2, by (rw [show w_ = w6.drew from hM]; exact hM9), HCN.out⟩
                  | some v4 =>
                    cases f_ 5 with
                    | none => exact fun ⟨st, _, hE, _⟩ => ⟨_, hE.map, by rw [putV_at]; rfl⟩
                    | some v5 => exact fun ⟨st, _, _, hE, _⟩ => ⟨_, hE.map, by rw [putV_at]; rfl⟩
                obtain ⟨g_, hg1, hg2⟩ := hKM
                exact gives_lookK rfl h39 h40 keyedH hlx Try.underlying84 zeroIntH hg1 ⟨hM_, hg2⟩
              refine allFrom_cons ?_ ?_
              · refine stepK_by (by decide) ?_
                intro f_ a_ w_ hM_ hk_
                have h41 : a_.eval (.tmp 41) = (.int .i64 (n : Int)) := hk_.got 2 41 _ (by kernel_rfl) rfl rfl
                have k6 := hk_.later 6 _ (by kernel_rfl) rfl
                clear hk_
                refine flow_plain rfl ?_
                refine gives_keep hM_ ?_
                unfold gives
                have hc_ : ∀ v, a_.eval (.const v) = v := fun _ => rfl
                have hn_ : ∀ f, a_.eval (.func f) = .func (.func f) #[] #[] := fun _ => rfl
                generalize a_.eval = ρ_ at *
                go_simp
                exact ⟨rfl, rfl⟩
              refine allFrom_cons ?_ ?_
              · intro f_ a_ w_ hM_ hk_
                have h39 : a_.eval (.tmp 39) = (.map (some m)) := hk_.got 0 39 _ (by kernel_rfl) rfl rfl
                have h40 : a_.eval (.tmp 40) = (.agg (hc x).toArray) := hk_.got 1 40 _ (by kernel_rfl) rfl rfl
                have k4 : f_ 4 = none := hk_.un
                have k5 := hk_.later 5 _ (by kernel_rfl) rfl
                have k6 := hk_.later 6 _ (by kernel_rfl) rfl
                clear hk_
                simp only [List.map_cons, List.map_nil, k4, k5, k6] at hM_
                simp only [List.map_cons, List.map_nil, upd_same, upd_ne f_ _ (show (5 : Nat) ≠ 4 by decide), upd_ne f_ _ (show (6 : Nat) ≠ 4 by decide), k5, k6]
                refine flow_plain rfl ?_
                subst hM_
                exact gives_entK rfl h39 h40 keyedH hlx Try.underlying84 zeroIntH hM9 (fun st w1 hE hO => ⟨⟨st, by rw [HCN.out], by rw [HCN.out] at hE; exact hE, hO⟩, trivial⟩)
              refine allFrom_cons ?_ ?_
              · intro f_ a_ w_ hM_ hk_
                have k4 := hk_.val 4 43 _ (by kernel_rfl) rfl rfl
                have k5 : f_ 5 = none := hk_.un
                have k6 := hk_.later 6 _ (by kernel_rfl) rfl
                clear hk_
                simp only [List.map_cons, List.map_nil, k4, k5, k6] at hM_
                simp only [List.map_cons, List.map_nil, upd_same, upd_ne f_ _ (show (4 : Nat) ≠ 5 by decide), upd_ne f_ _ (show (6 : Nat) ≠ 5 by decide), k4, k6]
                refine flow_plain rfl ?_
                obtain ⟨st, he, hE, hO⟩ := hM_
                exact gives_extract rfl he rfl ⟨⟨st, he, rfl, hE, hO⟩, trivial⟩
              refine allFrom_cons ?_ ?_
              · intro f_ a_ w_ hM_ hk_
                have h39 : a_.eval (.tmp 39) = (.map (some m)) := hk_.got 0 39 _ (by kernel_rfl) rfl rfl
                have h42 : a_.eval (.tmp 42) = (.int .i64 ((n : Int) + 1)) := hk_.got 3 42 _ (by kernel_rfl) rfl rfl
                have k4 := hk_.val 4 43 _ (by kernel_rfl) rfl rfl
                have k5 := hk_.val 5 44 _ (by kernel_rfl) rfl rfl
                have k6 : f_ 6 = none := hk_.un
                clear hk_
                simp only [List.map_cons, List.map_nil, k4, k5, k6] at hM_
                simp only [List.map_cons, List.map_nil, upd_same, upd_ne f_ _ (show (4 : Nat) ≠ 6 by decide), upd_ne f_ _ (show (5 : Nat) ≠ 6 by decide), k4, k5]
                refine flow_plain rfl ?_
                obtain ⟨st, he, he5, hE, hO⟩ := hM_
                exact gives_putK rfl h39 he5 h42 hE (fun w1 h1 h2 => ⟨⟨by rw [putV_putV] at h1; exact h1, hO.trans h2⟩, trivial⟩)
              exact allFrom_nil
            intro f_ y_ w_ hM_ hf_ hd_
            have h39 : f_ 39 = (.map (some m)) := (hf_ 0 39 _ (by decide) rfl rfl).1
            have h40 : f_ 40 = (.agg (hc x).toArray) := (hf_ 1 40 _ (by decide) rfl rfl).1
            have h41 : f_ 41 = (.int .i64 (n : Int)) := (hf_ 2 41 _ (by decide) rfl rfl).1
            have h42 : f_ 42 = (.int .i64 ((n : Int) + 1)) := (hf_ 3 42 _ (by decide) rfl rfl).1
            have k4 := (hf_ 4 43 _ (by decide) rfl rfl).2
            have k5 := (hf_ 5 44 _ (by decide) rfl rfl).2
            obtain ⟨x6, k6⟩ := hd_ 6 (by decide)
            simp only [List.map_cons, List.map_nil, k4, k5, k6] at hM_
            simp only [mix, List.drop_succ_cons, List.drop_zero, h39, h40, h41, h42]
            clear hf_ hd_ h39 h40 h41 h42 k4 k5 k6
            obtain ⟨hM10, hO10⟩ := hM_
            have hC10 := cnt_put hc_inj hC2 (x := x)
            rw [← HNN.out, List.append_assoc, ← HTK.out] at hC10
            have hb10 := (bx_drew hb08).trans (hO10.below hmw)
            have hown10 := own_oth hown8 hM8 hO10
            go_wp2
            go_roundw
            case rel => exact ⟨i2 + 1, putV f2 (.agg (hc x).toArray) (.int .i64 ((n : Int) + 1)), by omega, by go_num, hM10, hC10, by rw [HNS.out]; exact hown10, hb10⟩
            case measure => simp [intOf]; omega
        · obtain rfl : i2 = l.length := by omega
          rw [List.take_length] at *
          go_wp2
          go_ret
          exact ⟨.slice A9 (nots l other).length c9, rfl, hown, hbr2⟩
end Go.Proofs.Ythbmmilefimpaaa
