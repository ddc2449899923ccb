
/- Clashes: chained walked, of a proof as long as it must be. -/
import Derived.Test.YtgaefejblmnklaaDoorClJL
namespace Go.Proofs.YtgaefejblmnklaaDoor
open Go.RowKit
set_option linter.unusedVariables false
/-- What chained tells of a proof that is as long as it must be. -/
def ChainedIn (w : World) (V : List (List UInt8) × List UInt8 × List UInt8) (e : Ending) (w' : World) : Prop :=
  ∃ vo vs, e = .returned (.tuple #[vo, .agg ((V.2.1 ++ V.2.2).map cb).toArray, .int .i64 0]) ∧ w'.ownsRow w.heap.size tBy 1 vo V.1.length vs ∧ Owns w' w.heap.size vs V.1 ∧ Below w.heap.size w w'
theorem Owns.grown {w w1 : World} {B base' e' size' n' : Nat} {v' : Value} {xs' : List Value} {vs : List Value} {rs : List (List UInt8)} (h : Owns w B vs rs) (h' : w.ownsRow base' e' size' v' n' xs') (hg : w.grownBy w1 v'.ownBlock) (hne : tU8 ≠ e') : Owns w1 B vs rs := fun k u l h1 h2 => own_grow (h k u l h1 h2) h' hg hne
theorem Owns.put {w w2 : World} {B : Nat} {vs : List Value} {rs : List (List UInt8)} (h : Owns w B vs rs) {g t : Nat} {c0 c1 : Array Value} (hb : Blk w g t c0) (hp : Put w w2 g t c1) (h3 : t ≠ tU8) : Owns w2 B vs rs :=
  fun k v l q1 q2 => ownOther (h k v l q1 q2) hp (own_ne (h k v l q1 q2) hb (fun cur hx => by injection hx with _ hx; exact h3 hx))
theorem own_put {w w2 : World} {base e size n : Nat} {v : Value} {xs : List Value} (h : w.ownsRow base e size v n xs) {g t : Nat} {c0 c1 : Array Value} (hb : Blk w g t c0) (hp : Put w w2 g t c1) (h3 : t ≠ e) : w2.ownsRow base e size v n xs :=
  ownOther h hp (own_ne h hb (fun cur hx => by injection hx with _ hx; exact h3 hx))
theorem flat_take : ∀ (P : List (List UInt8)), (∀ x ∈ P, x.length = 32) → ∀ k, (P.take k).flatten = P.flatten.take (k * 32)
  | [], _, k => by simp
  | x :: r, h, 0 => by simp
  | x :: r, h, k + 1 => by
    have hx := h x List.mem_cons_self
    rw [List.take_succ_cons, List.flatten_cons, List.flatten_cons, List.take_append, List.take_of_length_le (l := x) (by omega), flat_take r (fun y hy => h y (List.mem_cons_of_mem _ hy)) k, hx]
    congr 2
    omega
theorem flat_drop : ∀ (P : List (List UInt8)), (∀ x ∈ P, x.length = 32) → ∀ k, (P.drop k).flatten = P.flatten.drop (k * 32)
  | [], _, k => by simp
  | x :: r, h, 0 => by simp
  | x :: r, h, k + 1 => by
    have hx := h x List.mem_cons_self
    have hd : x.drop ((k + 1) * 32) = [] := List.drop_eq_nil_of_le (by omega)
    rw [List.drop_succ_cons, List.flatten_cons, List.drop_append, hd, List.nil_append, flat_drop r (fun y hy => h y (List.mem_cons_of_mem _ hy)) k, hx]
    congr 1
    omega
theorem rd_takeH {w : World} {B : Nat} {A : Option Addr} {P : List (List UInt8)} (h : Rd w B A (P.flatten.map cb)) (hz : ∀ x ∈ P, x.length = 32) (k : Nat) : Rd w B A ((P.take k).flatten.map cb) := by
  rw [flat_take P hz, List.map_take]
  exact h.take _
theorem rd_dropH {w : World} {B b off : Nat} {P : List (List UInt8)} (h : Rd w B (some ⟨b, off, none⟩) (P.flatten.map cb)) (hz : ∀ x ∈ P, x.length = 32) (k : Nat) : Rd w B (some ⟨b, off + k * 32, none⟩) ((P.drop k).flatten.map cb) := by
  rw [flat_drop P hz, List.map_drop]
  rcases h with h | ⟨b', off', he, hb, hd⟩
  · left
    rw [h, List.drop_nil]
  · injection he with he
    injection he with h1 h2
    subst h1 h2
    refine .inr ⟨b, off + k * 32, rfl, hb, fun j v hv => ?_⟩
    rw [Nat.add_assoc]
    rw [List.getElem?_drop] at hv
    exact hd _ v hv
set_option maxRecDepth 100000 in
set_option maxHeartbeats 8000000 in
theorem chained_in (w : World) (hL : Laid w) (wide : Int) {m n : Nat} (h1 : 1 ≤ m) (h2 : m ≤ n) (hn : n < 18446744073709551616) {old : List UInt8} (ho : old.length = 32)
    {Ap : Option Addr} {c p : Nat} {path : List (List UInt8)} (hpl : path.length = p) (h32 : ∀ x ∈ path, x.length = 32) (hrp : Rd w w.heap.size Ap (path.flatten.map cb)) (hc : p ≤ c) (hc2 : c ≤ 9223372036854775807) (hp : p ≤ 1000) (hlong : p = longN m n) :
    Calls Tryd.prog 22 #[.int .i64 wide, .agg (kcell m old).toArray, .int .u64 (n : Int), .slice Ap p c] w (ChainedIn w (chL wide (steps m n) (cfst m n old path) (crest m n path))) := by
  have hm : m < 18446744073709551616 := by omega
  have hkb0 : Blk (w.alloc (.cells (kcell m old).toArray tKy)) w.heap.size tKy (kcell m old).toArray := Blk.new w _ _
  have hb1 : Below w.heap.size w (w.alloc (.cells (kcell m old).toArray tKy)) := bx_alloc (Below.refl _ _) _
  have hs1 : (w.alloc (.cells (kcell m old).toArray tKy)).heap.size = w.heap.size + 1 := by simp
  have HLG := hid (fun w' => Long_any w' m n hm hn)
  have hi : ¬ (m : Int) < 1 := by omega
  have hi2 : ¬ (n : Int) < (m : Int) := by omega
  have hpq : ((p : Int) == (longN m n : Int)) = true := by simp; omega
  have HCL := hid (crest_len (path := path) h1 h2 (hpl.trans hlong))
  have HFL := hid (cfst_len (path := path) h1 h2 (hpl.trans hlong) ho h32)
  have HLK := hid (longN_ok h1 h2)
  have HLONG := hid hlong
  have hmn0 := h2
  have h1m := h1
  obtain ⟨D, hD⟩ : ∃ D, D = steps m n := ⟨_, rfl⟩
  have hW : wholeN m n = D.all id := by rw [hD]; rfl
  have HWH := hid hW
  obtain ⟨V, hV⟩ : ∃ V, V = chL wide (steps m n) (cfst m n old path) (crest m n path) := ⟨_, rfl⟩
  rw [← hV]
  rw [← hD] at hV HCL HLK
  have HV := hid hV
  have HD := hid hD
  have HL := hid hL
  have HRP := hid hrp
  have HPL := hid hpl
  have H32 := hid h32
  have hDl : D.length ≤ 1000 := by have := HLK.out; rw [← hlong] at this; split at this <;> omega
  clear hV hD hW hL hrp hpl h32 hlong h1 h2
  generalize longN m n = LN at *
  go_enter Tryd.func22, Tryd.ntmps22
  go_wp2_with (first
    | ((with_reducible refine wpAtC ?_); refine wpList_alloc (w := w.alloc (.cells (kcell m old).toArray tKy)) rfl _ rfl zeroHH ?_; intro g9 w4 hg9 hg9' hz9 hb4; have hs4 := hb4.size; have c5 := kcell_size (hkb0.below hb4 hkb0.lt); have hk4 := hkb0.below hb4 hkb0.lt; have hb04 := bx_trans hb1 hb4; simp only [Act.put, List.setIfInBounds_toArray, List.set_cons_succ, List.set_cons_zero])
    | ((with_reducible refine wpAtC ?_); refine wpList_alloc (w := w4) rfl _ rfl zeroHH ?_; intro g11 w5 hg11 hg11' hz11 hb5; have c55 := kcell_size (hk4.below hb5 hk4.lt); have hk5 := hk4.below hb5 hk4.lt; have hz95 := hz9.below hb5 hz9.lt; have hb05 := bx_trans hb04 hb5; simp only [Act.put, List.setIfInBounds_toArray, List.set_cons_succ, List.set_cons_zero]))
  refine (HLG.out w5).mono ?_
  rintro e w6 ⟨rfl, hb6⟩
  have hw9 : w.heap.size ≤ g9 := by omega
  have hz96 := hz95.below hb6 hz95.lt
  have hk6 := hk5.below hb6 hk5.lt
  have hb06 := bx_trans hb05 hb6
  have hkl := hk6.lt
  obtain ⟨gk, hgk⟩ : ∃ gk, gk = w.heap.size := ⟨_, rfl⟩
  have hgkw : w.heap.size ≤ gk := by omega
  have hgk9 : gk < g9 := by omega
  rw [← hgk] at hk6 ⊢
  clear hz95 hz11 hb05 hb04 hb1 hk4 hk5 hkb0 c5 c55 hz9 hs1 hs4 hkl hg9 hg9' hg11 hg11' hb4 hb5 hb6 HLG hgk
  go_wp2_with fail
  have hbne : ((p : Int) != (LN : Int)) = false := by rw [bne, hpq]; rfl
  rw [hbne]
  clear hbne
  go_loopw [12, 13, 14, 15, 16] (fun v12 v13 v14 v15 _ wr => ∃ (m' n' : Nat) (P : List Bool), 1 ≤ m' ∧ m' ≤ n' ∧ n' ≤ n ∧ v12 = .int .u64 (m' : Int) ∧ v13 = .int .u64 (n' : Int) ∧ wr.ownsRow w.heap.size 4 1 v14 P.length (P.map bvl) ∧ v15 = .bool (P.all id) ∧ D = P ++ steps m' n' ∧ Blk wr gk tKy (kcell m old).toArray ∧ Blk wr g9 tHH (Value.agg (List.replicate 64 (cb 0)).toArray).cells ∧ Below w.heap.size w wr) (fun _ v13 _ _ _ _ => (intOf v13).toNat)
  case atStart => exact ⟨m, n, [], h1m, hmn0, Nat.le_refl _, rfl, rfl, nil_ownC _ _ _ _, rfl, by rw [List.nil_append]; exact HD.out, hk6, hz96, hb06⟩
  case round =>
    obtain ⟨m', n', P, k1, k2, k3, rfl, rfl, hown, rfl, hD, hkb, hzb, hbr⟩ := hrel
    rename World => wr
    obtain ⟨A6, c6, rfl, _, _, _⟩ := own_form hown
    have HO := hid hown
    have HB := hid hbr
    have HKB := hid hkb
    have HZB := hid hzb
    clear hown hbr hkb hzb hk6 hz96 hb06
    by_cases hlt : m' < n'
    · have hsp := split_lt (n := n') (by omega)
      have hsp1 := split_pos (n := n') (by omega)
      have hPl : P.length < 1100 := by
        have : D.length = P.length + (steps m' n').length := by rw [hD, List.length_append]
        omega
      have hPli : (P.length : Int) < 1100 := by omega
      have hn64 : n' < 18446744073709551616 := by omega
      have HN := hid (fun w' => Split_any w' n' hn64)
      have h63 : P.length + 1 ≤ maxLen := by unfold maxLen; omega
      have hby : (P.length + 1) * 1 ≤ 140737488355328 := by omega
      have hbs := HB.out.size
      by_cases hle : m' ≤ splitN n'
      · have hs := steps_true (m := m') (n := n') (by omega) hlt hle
        rw [hs] at hD
        generalize splitN n' = s at *
        have HDD := hid hD
        have hown1 := own_keep HO.out (bx_alloc (Below.refl _ wr) (.cells #[.bool true] 4))
        have hb1 := bx_alloc HB.out (.cells #[.bool true] 4)
        have rd1 := rd_of_row (w := wr.alloc (.cells #[.bool true] 4)) (heap_new rfl) (xs := [true].map bvl) rfl
        have hkb1 := HKB.out.below (bx_alloc (Below.refl _ wr) (.cells #[.bool true] 4)) HKB.out.lt
        have hzb1 := HZB.out.below (bx_alloc (Below.refl _ wr) (.cells #[.bool true] 4)) HZB.out.lt
        have hbs1 := hb1.size
        have HO1 := hid hown1
        have HB1 := hid hb1
        have HR1 := hid rd1
        have HKB1 := hid hkb1
        have HZB1 := hid hzb1
        clear hD hs hown1 hb1 rd1 hkb1 hzb1
        go_wp2_with fail
        refine (HN.out wr).mono ?_
        rintro e w5 ⟨rfl, rfl⟩
        go_wp2_with (at_builtin; refine wpList_app rfl _ _ _ rfl _ rfl _ _ _ rfl elBl HO1.out HR1.out rfl (one_bvl _) h63 hby hbs1 ?_; intro v7 w7 hown7 hg7 hat7)
        have HB7 := hid (own_below HB1.out HO1.out hg7)
        have HK7 := hid (grown_blk HO1.out hg7 HKB1.out (by decide))
        have HZ7 := hid (grown_blk HO1.out hg7 HZB1.out (by decide))
        go_roundw
        case rel => exact ⟨m', s, P ++ [true], by omega, by omega, by omega, rfl, rfl, by rw [List.length_append, List.map_append]; exact hown7, by simp, by rw [List.append_assoc]; exact HDD.out, HK7.out, HZ7.out, HB7.out⟩
        case measure => simp [intOf]; omega
      · have hs := steps_false (m := m') (n := n') (by omega) hlt hle
        rw [hs] at hD
        generalize splitN n' = s at *
        have e1 : IntKind.u64.wrap ((n' : Int) - (s : Nat)) = ((n' - s : Nat) : Int) := by simp only [IntKind.wrap, IntKind.bits, IntKind.signed]; simp; omega
        have e2 : IntKind.u64.wrap ((m' : Int) - (s : Nat)) = ((m' - s : Nat) : Int) := by simp only [IntKind.wrap, IntKind.bits, IntKind.signed]; simp; omega
        have HDD := hid hD
        have hown1 := own_keep HO.out (bx_alloc (Below.refl _ wr) (.cells #[.bool false] 4))
        have hb1 := bx_alloc HB.out (.cells #[.bool false] 4)
        have rd1 := rd_of_row (w := wr.alloc (.cells #[.bool false] 4)) (heap_new rfl) (xs := [false].map bvl) rfl
        have hkb1 := HKB.out.below (bx_alloc (Below.refl _ wr) (.cells #[.bool false] 4)) HKB.out.lt
        have hzb1 := HZB.out.below (bx_alloc (Below.refl _ wr) (.cells #[.bool false] 4)) HZB.out.lt
        have hbs1 := hb1.size
        have HO1 := hid hown1
        have HB1 := hid hb1
        have HR1 := hid rd1
        have HKB1 := hid hkb1
        have HZB1 := hid hzb1
        clear hD hs hown1 hb1 rd1 hkb1 hzb1
        go_wp2_with fail
        refine (HN.out wr).mono ?_
        rintro e w5 ⟨rfl, rfl⟩
        go_wp2_with (at_builtin; refine wpList_app rfl _ _ _ rfl _ rfl _ _ _ rfl elBl HO1.out HR1.out rfl (one_bvl _) h63 hby hbs1 ?_; intro v7 w7 hown7 hg7 hat7)
        have HB7 := hid (own_below HB1.out HO1.out hg7)
        have HK7 := hid (grown_blk HO1.out hg7 HKB1.out (by decide))
        have HZ7 := hid (grown_blk HO1.out hg7 HZB1.out (by decide))
        go_roundw
        case rel => exact ⟨m' - s, n' - s, P ++ [false], by omega, by omega, by omega, rfl, rfl, by rw [List.length_append, List.map_append]; exact hown7, by simp, by rw [List.append_assoc]; exact HDD.out, HK7.out, HZ7.out, HB7.out⟩
        case measure => simp [intOf]; omega
    · obtain rfl : m' = n' := by omega
      rw [steps_no (by omega), List.append_nil] at hD
      have hdl : D.length = P.length := by rw [hD]
      have HDD := hid hD
      have hr5 := kcell_root HKB.out
      have hao := aggHL ho
      have hbs := HB.out.size
      have HLG2 := HLK.out
      rw [HWH.out, hD, ← HLONG.out] at HLG2
      have HLG3 := hid HLG2
      clear hD HLG2
      by_cases hw : P.all id = true
      · rw [hw]
        have HX0 : Hid (cfst m n old path = old) := hid (by unfold cfst; rw [HWH.out, HDD.out, if_pos hw])
        have HRS : Hid (crest m n path = path) := hid (by unfold crest; rw [HWH.out, HDD.out, if_pos hw])
        have HPR : Hid (P.length = p) := hid (by have := HLG3.out; rw [if_pos hw] at this; omega)
        clear hw
        go_wp2_with (first
          | ((with_reducible refine wpAtC ?_); refine wpList_load_agg rfl _ _ rfl _ _ rfl (old.map cb) hao hr5 ?_; simp only [Act.put, List.setIfInBounds_toArray, List.set_cons_succ, List.set_cons_zero])
          | ((with_reducible refine wpAtC ?_); refine wpList_alloc (w := wr) rfl _ rfl zeroH ?_; intro g17 w12 hg17 hg17' hz12 hb12; simp only [Act.put, List.setIfInBounds_toArray, List.set_cons_succ, List.set_cons_zero])
          | ((with_reducible refine wpAtC ?_); refine wpList_store_agg rfl _ _ _ rfl _ _ rfl (old.map cb).toArray rfl (aggHS ho) hz12 (szH ho) (one_cbA _) ?_; intro w13 hp13; simp only [Act.put]; rw [splH ho] at hp13; have hb13 := hb12.trans (hp13.below hg17); have hx13 := hp13.blk)
          | ((with_reducible refine wpAtC ?_); refine wpList_load_agg rfl _ _ rfl _ _ rfl (old.map cb) hao (blk_cells hx13) ?_; simp only [Act.put, List.setIfInBounds_toArray, List.set_cons_succ, List.set_cons_zero])
          | ((with_reducible refine wpAtC ?_); refine wpList_alloc (w := w13) rfl _ rfl zeroH ?_; intro g19 w15 hg19 hg19' hz15 hb15; simp only [Act.put, List.setIfInBounds_toArray, List.set_cons_succ, List.set_cons_zero])
          | ((with_reducible refine wpAtC ?_); refine wpList_store_agg rfl _ _ _ rfl _ _ rfl (old.map cb).toArray rfl (aggHS ho) hz15 (szH ho) (one_cbA _) ?_; intro w16 hp16; simp only [Act.put]; rw [splH ho] at hp16; have hb1316 := hb15.trans (hp16.below hg19)))
        have hxA := hx13
        have hzA := HZB.out.below hb13 HZB.out.lt
        have hOA := own_keep HO.out hb13
        have hbA := bx_trans HB.out hb13
        have hg17A : w.heap.size ≤ g17 := Nat.le_trans hbs hg17
        have hg917A : g9 < g17 := Nat.lt_of_lt_of_le HZB.out.lt hg17
        have HRL := HPL
        have HRR := HRP
        have HR32 := H32
        have hx0l := ho
        have HVV : Hid (V = chL wide P old path) := hid (by rw [HV.out, HX0.out, HRS.out, HDD.out])
        clear hz12 hb12 hp13 hb13 hx13 HKB HZB HO hg17' hao hr5
        have hx17 := hxA.below hb1316 hxA.lt
        have hx19 := hp16.blk
        have hzb16 := hzA.below hb1316 hzA.lt
        have hO16 := own_keep hOA hb1316
        have hb16 := bx_trans hbA hb1316
        have hg179 : g17 < g19 := Nat.lt_of_lt_of_le hxA.lt hg19
        have hg9l := hzA.lt
        have hg17w : w.heap.size ≤ g17 := hg17A
        have hg19w : w.heap.size ≤ g19 := Nat.le_trans hg17w (Nat.le_of_lt hg179)
        have hg917 : g9 < g17 := hg917A
        have HDR := hid (show P.length = path.length by rw [HRL.out]; exact HPR.out)
        have HFT : Hid (old.length = 32) := hid hx0l
        clear hp16 hz15 hb15 hb1316 hxA hzA hOA hbA hg17A hg917A
        go_loopw [18, 20, 21, 22, 76] (fun v18 _ _ _ v76 wx => ∃ (j : Nat) (vs : List Value), j ≤ p ∧ v76 = .int .i64 (j : Int) ∧ wx.ownsRow w.heap.size tBy 1 v18 (chTo wide P old path j).1.length vs ∧ Owns wx w.heap.size vs (chTo wide P old path j).1 ∧ Blk wx g17 tH ((chTo wide P old path j).2.1.map cb).toArray ∧ Blk wx g19 tH ((chTo wide P old path j).2.2.map cb).toArray ∧ Blk wx g9 tHH (Value.agg (List.replicate 64 (cb 0)).toArray).cells ∧ wx.ownsRow w.heap.size 4 1 (.slice A6 P.length c6) P.length (P.map bvl) ∧ Below w.heap.size w wx) (fun _ _ _ _ v76 _ => p - (intOf v76).toNat)
        case atStart => exact ⟨0, [], Nat.zero_le _, rfl, nil_ownC _ _ _ _, fun k v l h1 _ => (by simp at h1), hx17, hx19, hzb16, hO16, hb16⟩
        case round =>
          obtain ⟨j, vs, hj, rfl, hl, hws, hx, hy, hzz, hff, hbx⟩ := hrel
          rename World => wx
          clear hx17 hx19 hzb16 hO16 hb16
          have hrl := chTo_len (wide := wide) (x := old) HDR.out j (by rw [HRL.out]; exact hj)
          obtain ⟨hrx, hry⟩ := chTo_hash (wide := wide) HDR.out HFT.out j (by rw [HRL.out]; exact hj)
          obtain ⟨A8, c8, rfl, _, _, _⟩ := own_form hl
          have HLO := hid hl
          have HWS := hid hws
          have HXB := hid hx
          have HYB := hid hy
          have HZZ := hid hzz
          have HFF := hid hff
          clear hl hws hx hy hzz hff
          by_cases hlt : j < p
          · have hjr : j < path.length := by rw [HRL.out]; exact hlt
            have hsucc := chTo_succ (wide := wide) (x := old) HDR.out hjr
            have hPr : P.length = p := HPR.out
            obtain ⟨k, hk⟩ : ∃ k : Nat, k = P.length - 1 - j := ⟨_, rfl⟩
            have hkl : k < P.length := by omega
            rw [show P[P.length - 1 - j]'(by omega) = P[k] by simp only [hk]] at hsucc
            have hhl := HR32.out _ (List.getElem_mem hjr)
            obtain ⟨b, off, rfl, _, _⟩ := HRR.out.at_ (k := j) (by rw [List.length_map, hs_len HR32.out, HRL.out]; omega)
            obtain ⟨hbB, hpw⟩ := rd_hash HRR.out HR32.out j hjr
            have hpc := fun i v hv => (hbx.cell (p := ⟨b, off + j * 32 + i, none⟩) hbB).trans (hpw i v hv)
            clear hpw
            obtain ⟨gD, capD, heD, _, hgD, _, _⟩ := own_block HFF.out (by omega)
            injection heD with heD _ heD2
            subst heD heD2
            have hcD : wx.cell? ⟨gD, k, none⟩ = some (.bool P[k]) := by
              obtain ⟨b', off', he, _, hc'⟩ := (own_rd HFF.out).at_ (k := k) (by rw [List.length_map]; exact hkl)
              injection he with he
              injection he with e1 e2
              subst e1 e2
              have := hc' k (bvl P[k]) (by rw [List.getElem?_map, List.getElem?_eq_getElem hkl]; rfl)
              rw [Nat.zero_add] at this
              exact this
            generalize path[j] = h at *
            generalize P[k] = d at *
            obtain ⟨q1, hq1⟩ : ∃ q : Nat, q = P.length - 1 := ⟨_, rfl⟩
            have e1 : (P.length : Int) - 1 = (q1 : Int) := by omega
            have e2 : (q1 : Int) - (j : Int) = (k : Int) := by omega
            obtain ⟨Rs, hRs⟩ : ∃ Rs, Rs = (chTo wide P old path j).1 := ⟨_, rfl⟩
            obtain ⟨X, hX⟩ : ∃ X, X = (chTo wide P old path j).2.1 := ⟨_, rfl⟩
            obtain ⟨Y, hY⟩ : ∃ Y, Y = (chTo wide P old path j).2.2 := ⟨_, rfl⟩
            have h1s := congrArg Prod.fst hsucc
            have h2s := congrArg (fun s => s.2.1) hsucc
            have h3s := congrArg (fun s => s.2.2) hsucc
            change _ = (chTo wide P old path j).1 ++ [rowOf d (chTo wide P old path j).2.2 h] at h1s
            change _ = (if d then (chTo wide P old path j).2.1 else narL wide (rowOf false (chTo wide P old path j).2.1 h)) at h2s
            change _ = narL wide (rowOf d (chTo wide P old path j).2.2 h) at h3s
            rw [← hRs, ← hY] at h1s
            rw [← hX] at h2s
            rw [← hY] at h3s
            rw [← hRs] at hrl HLO HWS ⊢
            rw [← hX] at hrx HXB
            rw [← hY] at hry HYB
            have HS1 := hid h1s
            have HS2 := hid h2s
            have HS3 := hid h3s
            have HPC := hid hpc
            have HB2 := hid hbx
            have hah := aggHL hhl
            have hblw : b < wx.heap.size := Nat.lt_of_lt_of_le hbB hbx.size
            have hpj : j < P.length := by omega
            have h63 : Rs.length + 1 ≤ maxLen := by unfold maxLen; omega
            have hby : (Rs.length + 1) * 24 ≤ 140737488355328 := by omega
            have hneg : ((q1 : Int) - (j : Int)) = (k : Int) := e2
            clear hsucc hq1 hk hpc hbx hRs hX hY h1s h2s h3s hPr hrl hneg
            go_wp2_with (first
              | ((with_reducible refine wpAtC ?_); refine wpList_load_agg rfl _ _ rfl _ _ rfl (h.map cb) hah HPC.out ?_; simp only [Act.put, List.setIfInBounds_toArray, List.set_cons_succ, List.set_cons_zero])
              | ((with_reducible refine wpAtC ?_); refine wpList_alloc (w := wx) rfl _ rfl zeroH ?_; intro g21 w12 hg21 hg21' hz12 hb12; simp only [Act.put, List.setIfInBounds_toArray, List.set_cons_succ, List.set_cons_zero])
              | ((with_reducible refine wpAtC ?_); refine wpList_store_agg rfl _ _ _ rfl _ _ rfl (h.map cb).toArray rfl (aggHS hhl) hz12 (szH hhl) (one_cbA _) ?_; intro w13 hp13; simp only [Act.put]; rw [splH hhl] at hp13; have hb13 := hb12.trans (hp13.below hg21); have hcD13 := hb13.cell (p := ⟨gD, k, none⟩) hgD; rw [hcD] at hcD13; have hy13 := HYB.out.below hb13 HYB.out.lt; have hh13 := hp13.blk)
              | ((with_reducible refine wpAtC ?_); refine wpList_load_agg rfl _ _ rfl _ _ rfl (h.map cb) hah (blk_cells hh13) ?_; simp only [Act.put, List.setIfInBounds_toArray, List.set_cons_succ, List.set_cons_zero])
              | ((with_reducible refine wpAtC ?_); refine wpList_load_agg rfl _ _ rfl _ _ rfl (Y.map cb) (aggHL hry) (blk_cells hy13) ?_; simp only [Act.put, List.setIfInBounds_toArray, List.set_cons_succ, List.set_cons_zero]))
            refine (both_any w13 hhl hry).mono ?_
            rintro e w14 ⟨v14, rfl, hv14, hb14⟩
            have hb014 : Below wx.heap.size wx w14 := bx_trans hb13 hb14
            have hy14 := hy13.below hb14 hy13.lt
            have hh14 := hh13.below hb14 hh13.lt
            have hx14 := HXB.out.below hb014 HXB.out.lt
            have hcD14 := hb14.cell (p := ⟨gD, k, none⟩) (Nat.lt_of_lt_of_le hgD hb13.size)
            rw [hcD13] at hcD14
            have hw13 := (bx_trans HB2.out hb13).size
            obtain ⟨row0, hrow0⟩ : ∃ r : List UInt8, r = rowOf false Y h := ⟨_, rfl⟩
            have HR065 : Hid (row0.length = 65) := hid (by rw [hrow0]; show (1 :: (_ ++ _) : List UInt8).length = 65; rw [List.length_cons, List.length_append, hhl, hry])
            have hv14 : OwnB w14 w13.heap.size v14 row0 := by rw [hrow0]; exact hv14
            have HROW0 := hid hrow0
            have HV14 := hid (OwnB.more hv14 hw13)
            obtain ⟨A14, c14, rfl, _, _, _⟩ := own_form hv14
            clear hrow0
            clear hcD13 hh13 hy13 hz12 hp13 hb12 hv14 hcD
            cases d with
            | true =>
              go_wp2_with (first
                | ((with_reducible refine wpAtC ?_); refine wpList_load_agg rfl _ _ rfl _ _ rfl (Y.map cb) (aggHL hry) (blk_cells hy14) ?_; simp only [Act.put, List.setIfInBounds_toArray, List.set_cons_succ, List.set_cons_zero])
                | ((with_reducible refine wpAtC ?_); refine wpList_load_agg rfl _ _ rfl _ _ rfl (h.map cb) hah (blk_cells hh14) ?_; simp only [Act.put, List.setIfInBounds_toArray, List.set_cons_succ, List.set_cons_zero]))
              refine (both_any w14 hry hhl).mono ?_
              rintro e wA ⟨v15, rfl, hv15, hb15⟩
              have hb0A := bx_trans hb014 hb15
              have hbA := bx_trans HB2.out hb0A
              obtain ⟨row, hrow⟩ : ∃ r : List UInt8, r = rowOf true Y h := ⟨_, rfl⟩
              have HRW : Hid (row.length = 65) := hid (by rw [hrow]; show (1 :: (_ ++ _) : List UInt8).length = 65; rw [List.length_cons, List.length_append, hhl, hry])
              have hVA : OwnB wA w.heap.size v15 row := by rw [hrow]; exact OwnB.more hv15 (bx_trans HB2.out hb014).size
              have HR1 : Hid ((chTo wide P old path (j + 1)).1 = Rs ++ [row]) := hid (by rw [hrow]; exact HS1.out)
              have HR3 : Hid ((chTo wide P old path (j + 1)).2.2 = narL wide row) := hid (by rw [hrow]; exact HS3.out)
              clear hrow
              have HXN : Hid ((chTo wide P old path (j + 1)).2.1 = X) := hid HS2.out
              have hlA := own_keep HLO.out hb0A
              have hwA := HWS.out.below hb0A
              have hfA := own_keep HFF.out hb0A
              have hxA := HXB.out.below hb0A HXB.out.lt
              have hyA := HYB.out.below hb0A HYB.out.lt
              have hzA := HZZ.out.below hb0A HZZ.out.lt
              obtain ⟨A15, c15, rfl, _, _, _⟩ := own_form hVA
              clear hv15 hb15 hb0A hy14 hh14 hx14 hcD14
              have hone : ∀ u ∈ [Value.slice A15 row.length c15], u.oneCell' = true := by intro u hu; simp at hu; subst hu; rfl
              have hbs : Below wA.heap.size wA (wA.alloc (.cells #[.slice A15 row.length c15] tBy)) := bx_alloc (Below.refl _ _) _
              have hlB := own_keep hlA hbs
              have rdB : Rd (wA.alloc (.cells #[.slice A15 row.length c15] tBy)) (wA.alloc (.cells #[.slice A15 row.length c15] tBy)).heap.size (some ⟨wA.heap.size, 0, none⟩) [.slice A15 row.length c15] := rd_of_row (heap_new rfl) rfl
              have hwB : w.heap.size ≤ (wA.alloc (.cells #[.slice A15 row.length c15] tBy)).heap.size := (bx_trans hbA hbs).size
              have hxB := hxA.below hbs hxA.lt
              have hyB := hyA.below hbs hyA.lt
              have hzB := hzA.below hbs hzA.lt
              have hfB := own_keep hfA hbs
              have hWB := hwA.below hbs
              have hVB := hVA.below hbs
              have hbB := bx_trans hbA hbs
              have HLB := hid hlB
              have HRB := hid rdB
              clear hlA hxA hyA hzA hfA hwA hVA hbA hbs hlB rdB
              go_wp2_with (at_builtin; refine wpList_app rfl _ _ _ rfl _ rfl _ _ _ rfl elBy HLB.out HRB.out rfl hone h63 hby hwB ?_; intro v18 w18 hown18 hg18 hat18)
              have hb18 := own_below hbB HLB.out hg18
              have hx18 := grown_blk HLB.out hg18 hxB (by decide)
              have hy18 := grown_blk HLB.out hg18 hyB (by decide)
              have hz18 := grown_blk HLB.out hg18 hzB (by decide)
              have hf18 := own_grow hfB HLB.out hg18 (by decide)
              have hV18 : OwnB w18 w.heap.size _ row := own_grow hVB HLB.out hg18 (by decide)
              have hW18 := Owns.snoc (hWB.grown HLB.out hg18 (by decide)) (by have := HLB.out.1; omega) hV18
              rw [← HR1.out] at hW18
              obtain ⟨A18, c18, e18, q18, r18⟩ := hV18.rd
              injection e18 with e18 _ e18'
              subst e18 e18'
              have HNR := hid (narrow_any w18 (HL.out.below hb18) wide r18 (Nat.le_refl _) q18 (by rw [HRW.out]; decide))
              clear hxB hyB hzB hfB hWB hVB hbB HLB HRB hg18 hat18 r18
              go_wp2_with fail
              refine HNR.out.mono ?_
              rintro e w19 ⟨rfl, hb19⟩
              have hnl := narL_len wide row
              rw [← HR3.out] at hnl ⊢
              obtain ⟨N, hN⟩ : ∃ N, N = (chTo wide P old path (j + 1)).2.2 := ⟨_, rfl⟩
              rw [← hN] at hnl ⊢
              have HN := hid hN
              have hy19 := hy18.below hb19 hy18.lt
              have hsz : 0 + (N.map cb).toArray.size ≤ (Y.map cb).toArray.size := by simp [hnl, hry]
              have hsp : spl (Y.map cb).toArray 0 (N.map cb).toArray.toList = (N.map cb).toArray := spl_whole (by simp [hnl, hry])
              clear hN HNR
              go_wp2_with ((with_reducible refine wpAtC ?_); refine wpList_store_agg rfl _ _ _ rfl _ _ rfl (N.map cb).toArray rfl (aggHS hnl) hy19 hsz (one_cbA _) ?_; intro w20 hp20; simp only [Act.put]; rw [hsp] at hp20)
              have q1 := own_put (own_keep hown18 hb19) hy19 hp20 (by decide)
              have q2 := (hW18.below hb19).put hy19 hp20 (by decide)
              have q3 := hp20.other (hx18.below hb19 hx18.lt) (by omega)
              have q4 := hp20.other (hz18.below hb19 hz18.lt) (by omega)
              have q5 := own_put (own_keep hf18 hb19) hy19 hp20 (by decide)
              have q6 := bx_put (bx_trans hb18 hb19) hp20 hg19w
              have q7 := hp20.blk
              have HS1L : Hid ((chTo wide P old path (j + 1)).1.length = Rs.length + 1) := hid (by rw [HR1.out, List.length_append]; rfl)
              clear hy19 hp20 hb19 hsp hsz hown18 hW18 hx18 hz18 hf18 hb18
              go_roundw
              case rel => exact ⟨j + 1, vs ++ [_], by omega, rfl, by rw [HS1L.out]; exact q1, q2, by rw [HXN.out]; exact q3, by rw [← HN.out]; exact q7, q4, q5, q6⟩
              case measure => simp [intOf]; omega
            | false =>
              go_wp2_with (first
                | ((with_reducible refine wpAtC ?_); refine wpList_load_agg rfl _ _ rfl _ _ rfl (h.map cb) hah (blk_cells hh14) ?_; simp only [Act.put, List.setIfInBounds_toArray, List.set_cons_succ, List.set_cons_zero])
                | ((with_reducible refine wpAtC ?_); refine wpList_load_agg rfl _ _ rfl _ _ rfl (X.map cb) (aggHL hrx) (blk_cells hx14) ?_; simp only [Act.put, List.setIfInBounds_toArray, List.set_cons_succ, List.set_cons_zero]))
              refine (both_any w14 hhl hrx).mono ?_
              rintro e w15 ⟨v15, rfl, hv15, hb15⟩
              have hb015 := bx_trans hb014 hb15
              have hbW15 := bx_trans HB2.out hb015
              obtain ⟨row1, hrow1⟩ : ∃ row1 : List UInt8, row1 = 1 :: (h ++ X) := ⟨_, rfl⟩
              rw [← hrow1] at hv15
              have hX2 : (chTo wide P old path (j + 1)).2.1 = narL wide row1 := by rw [hrow1]; exact HS2.out
              have HR65 : Hid (row1.length ≤ 800000000) := hid (by rw [hrow1]; simp [hhl, hrx])
              clear hrow1
              obtain ⟨A16, c16, e16, q16, r16⟩ := hv15.rd
              subst e16
              have HNX := hid (narrow_any w15 (HL.out.below hbW15) wide r16 (Nat.le_refl _) q16 HR65.out)
              have HX2 := hid hX2
              clear hX2
              clear r16 hv15 hcD14 hh14 hy14
              go_wp2_with fail
              refine HNX.out.mono ?_
              rintro e w17 ⟨rfl, hb17⟩
              have hnl := narL_len wide row1
              have hX2 := HX2.out
              obtain ⟨N1, hN1⟩ : ∃ N1, N1 = narL wide row1 := ⟨_, rfl⟩
              rw [← hN1] at hnl hX2 ⊢
              have HXN := hid hX2
              have hb017 := bx_trans hb015 hb17
              have hx17 := HXB.out.below hb017 HXB.out.lt
              have hsz : 0 + (N1.map cb).toArray.size ≤ (X.map cb).toArray.size := by simp [hnl, hrx]
              have hsp : spl (X.map cb).toArray 0 (N1.map cb).toArray.toList = (N1.map cb).toArray := spl_whole (by simp [hnl, hrx])
              have HB017 := hid hb017
              have HB17 := hid (bx_trans hb15 hb17)
              clear hN1 HNX hX2 hb17 hb15 hb017 hbW15 hb015 hx14
              have HR1 : Hid ((chTo wide P old path (j + 1)).1 = Rs ++ [row0]) := hid (by rw [HROW0.out]; exact HS1.out)
              have HR3 : Hid ((chTo wide P old path (j + 1)).2.2 = narL wide row0) := hid (by rw [HROW0.out]; exact HS3.out)
              have HRW := HR065
              have hone : ∀ u ∈ [Value.slice A14 row0.length c14], u.oneCell' = true := by intro u hu; simp at hu; subst hu; rfl
              go_wp2_with (first
                | ((with_reducible refine wpAtC ?_); refine wpList_store_agg rfl _ _ _ rfl _ _ rfl (N1.map cb).toArray rfl (aggHS hnl) hx17 hsz (one_cbA _) ?_; intro wA hpA; simp only [Act.put]; rw [hsp] at hpA; have hbA := bx_put (bx_trans HB2.out HB017.out) hpA hg17w; have hVA : OwnB wA w.heap.size (.slice A14 row0.length c14) row0 := own_put (HV14.out.below HB17.out) hx17 hpA (by decide); have hlA := own_put (own_keep HLO.out HB017.out) hx17 hpA (by decide); have hwA := (HWS.out.below HB017.out).put hx17 hpA (by decide); have hfA := own_put (own_keep HFF.out HB017.out) hx17 hpA (by decide); have hxA := hpA.blk; have hyA := hpA.other (HYB.out.below HB017.out HYB.out.lt) (by omega); have hzA := hpA.other (HZZ.out.below HB017.out HZZ.out.lt) (by omega); have hbs : Below wA.heap.size wA (wA.alloc (.cells #[.slice A14 row0.length c14] tBy)) := bx_alloc (Below.refl _ _) _; have hlB := own_keep hlA hbs; have rdB : Rd (wA.alloc (.cells #[.slice A14 row0.length c14] tBy)) (wA.alloc (.cells #[.slice A14 row0.length c14] tBy)).heap.size (some ⟨wA.heap.size, 0, none⟩) [.slice A14 row0.length c14] := rd_of_row (heap_new rfl) rfl; have hwB : w.heap.size ≤ (wA.alloc (.cells #[.slice A14 row0.length c14] tBy)).heap.size := (bx_trans hbA hbs).size; have hxB := hxA.below hbs hxA.lt; have hyB := hyA.below hbs hyA.lt; have hzB := hzA.below hbs hzA.lt; have hfB := own_keep hfA hbs; have hWB := hwA.below hbs; have hVB := hVA.below hbs; have hbB := bx_trans hbA hbs; have HLB := hid hlB; have HRB := hid rdB; clear hlA hxA hyA hzA hfA hwA hVA hbA hbs hlB rdB)
                | (at_builtin; refine wpList_app rfl _ _ _ rfl _ rfl _ _ _ rfl elBy HLB.out HRB.out rfl hone h63 hby hwB ?_; intro v18 w18 hown18 hg18 hat18))
              have hb18 := own_below hbB HLB.out hg18
              have hx18 := grown_blk HLB.out hg18 hxB (by decide)
              have hy18 := grown_blk HLB.out hg18 hyB (by decide)
              have hz18 := grown_blk HLB.out hg18 hzB (by decide)
              have hf18 := own_grow hfB HLB.out hg18 (by decide)
              have hV18 : OwnB w18 w.heap.size _ row0 := own_grow hVB HLB.out hg18 (by decide)
              have hW18 := Owns.snoc (hWB.grown HLB.out hg18 (by decide)) (by have := HLB.out.1; omega) hV18
              rw [← HR1.out] at hW18
              obtain ⟨A18, c18, e18, q18, r18⟩ := hV18.rd
              injection e18 with e18 _ e18'
              subst e18 e18'
              have HNR := hid (narrow_any w18 (HL.out.below hb18) wide r18 (Nat.le_refl _) q18 (by rw [HRW.out]; decide))
              clear hxB hyB hzB hfB hWB hVB hbB HLB HRB hg18 hat18 r18
              go_wp2_with fail
              refine HNR.out.mono ?_
              rintro e w19 ⟨rfl, hb19⟩
              have hnl := narL_len wide row0
              rw [← HR3.out] at hnl ⊢
              obtain ⟨N, hN⟩ : ∃ N, N = (chTo wide P old path (j + 1)).2.2 := ⟨_, rfl⟩
              rw [← hN] at hnl ⊢
              have HN := hid hN
              have hy19 := hy18.below hb19 hy18.lt
              have hsz : 0 + (N.map cb).toArray.size ≤ (Y.map cb).toArray.size := by simp [hnl, hry]
              have hsp : spl (Y.map cb).toArray 0 (N.map cb).toArray.toList = (N.map cb).toArray := spl_whole (by simp [hnl, hry])
              clear hN HNR
              go_wp2_with ((with_reducible refine wpAtC ?_); refine wpList_store_agg rfl _ _ _ rfl _ _ rfl (N.map cb).toArray rfl (aggHS hnl) hy19 hsz (one_cbA _) ?_; intro w20 hp20; simp only [Act.put]; rw [hsp] at hp20)
              have q1 := own_put (own_keep hown18 hb19) hy19 hp20 (by decide)
              have q2 := (hW18.below hb19).put hy19 hp20 (by decide)
              have q3 := hp20.other (hx18.below hb19 hx18.lt) (by omega)
              have q4 := hp20.other (hz18.below hb19 hz18.lt) (by omega)
              have q5 := own_put (own_keep hf18 hb19) hy19 hp20 (by decide)
              have q6 := bx_put (bx_trans hb18 hb19) hp20 hg19w
              have q7 := hp20.blk
              have HS1L : Hid ((chTo wide P old path (j + 1)).1.length = Rs.length + 1) := hid (by rw [HR1.out, List.length_append]; rfl)
              clear hy19 hp20 hb19 hsp hsz hown18 hW18 hx18 hz18 hf18 hb18
              go_roundw
              case rel => exact ⟨j + 1, vs ++ [_], by omega, rfl, by rw [HS1L.out]; exact q1, q2, by rw [HXN.out]; exact q3, by rw [← HN.out]; exact q7, q4, q5, q6⟩
              case measure => simp [intOf]; omega
          · have hall : chTo wide P old path j = V := by rw [HVV.out, ← chTo_all HDR.out, HRL.out, show j = p from by omega]
            rw [hall] at hrl hrx hry HLO HWS HXB HYB ⊢
            obtain ⟨Rs, hRs⟩ : ∃ Rs, Rs = V.1 := ⟨_, rfl⟩
            obtain ⟨X, hX⟩ : ∃ X, X = V.2.1 := ⟨_, rfl⟩
            obtain ⟨Y, hY⟩ : ∃ Y, Y = V.2.2 := ⟨_, rfl⟩
            rw [← hRs] at hrl HLO HWS ⊢
            rw [← hX] at hrx HXB
            rw [← hY] at hry HYB
            have HRs := hid hRs
            have HX := hid hX
            have HY := hid hY
            have HB2 := hid hbx
            have hjp : (p : Int) ≤ (j : Int) := by omega
            have hjp2 : ¬ (j : Int) < (p : Int) := by omega
            have hxy : (X ++ Y).length = 64 := by rw [List.length_append, hrx, hry]
            clear hall hRs hX hY hbx hrl
            go_wp2_with fail
            refine wp_flow (by kernel_rfl) [0, 0, 0, 6, 1, 31, 63] 5 [false, false, false, false, false, false, false, false, true, false, false, false, false, false, false, false, false, false, false, false, false, false, false, false, false, false, false, false, false, false, false, false, false, false, false, false, false, false, false, false, false, false, false, false, false, false, false, false, false, false, false, false, false, false, false, false, false, false, false, false, false, false, false, false, false, false, false, false, false, false, false, false, false, false, false, false, false, false, false, false, false, false, false, false, false, false, false, false, false, false, false, false, false, false, false, false, false, false, false, false, false, false, false, false, false, false, false, false, true, true, true, true] (by kernel_rfl) (by decide) (by kernel_rfl) [FP.eq (.slice A8 Rs.length c8), FP.eq (.agg (X.map cb).toArray), FP.eq (.agg (Y.map cb).toArray), FP.eq (.agg ((X ++ Y).map cb).toArray), FP.eq (.slice A8 Rs.length c8)] ?_ ?_
            · refine allFrom_cons ?_ ?_
              · intro a_ w_ hk_
                have h18 : a_.eval (.tmp 18) = .slice A8 Rs.length c8 := hk_.old 18 (by kernel_rfl)
                have hx_ := hk_.ext
                clear hk_
                refine flow_plain rfl ?_
                exact gives_move rfl ⟨Below.refl _ _, h18⟩
              refine allFrom_cons ?_ ?_
              · intro a_ w_ hk_
                have h17 : a_.eval (.tmp 17) = .pointer (some ⟨g17, 0, none⟩) := hk_.old 17 (by kernel_rfl)
                have hx_ := hk_.ext
                clear hk_
                refine flow_plain rfl ?_
                exact gives_ldC rfl h17 (aggHL hrx) (blk_cells (HXB.out.below hx_ HXB.out.lt)) ⟨Below.refl _ _, rfl⟩
              refine allFrom_cons ?_ ?_
              · intro a_ w_ hk_
                have h19 : a_.eval (.tmp 19) = .pointer (some ⟨g19, 0, none⟩) := hk_.old 19 (by kernel_rfl)
                have hx_ := hk_.ext
                clear hk_
                refine flow_plain rfl ?_
                exact gives_ldC rfl h19 (aggHL hry) (blk_cells (HYB.out.below hx_ HYB.out.lt)) ⟨Below.refl _ _, rfl⟩
              refine allFrom_cons ?_ ?_
              · intro a_ w_ hk_
                have h109 : a_.eval (.tmp 109) = (.agg (X.map cb).toArray) := hk_.got 1 109 _ (by kernel_rfl) rfl rfl
                have h110 : a_.eval (.tmp 110) = (.agg (Y.map cb).toArray) := hk_.got 2 110 _ (by kernel_rfl) rfl rfl
                have hx_ := hk_.ext
                clear hk_
                refine flow_plain rfl ?_
                exact gives_build tHH _ rfl [.agg (X.map cb).toArray, .agg (Y.map cb).toArray] (by simp [h109, h110]) (builtHH hrx hry) ⟨Below.refl _ _, rfl⟩
              refine allFrom_cons ?_ ?_
              · intro a_ w_ hk_
                have h108 : a_.eval (.tmp 108) = (.slice A8 Rs.length c8) := hk_.got 0 108 _ (by kernel_rfl) rfl rfl
                have hx_ := hk_.ext
                clear hk_
                refine flow_plain rfl ?_
                exact gives_assign rfl ⟨Below.refl _ _, h108⟩
              exact allFrom_nil
            intro f_ w_ hx_ hf_
            have h108 : f_ 108 = (.slice A8 Rs.length c8) := hf_ 0 108 _ (by decide) rfl rfl
            have h109 : f_ 109 = (.agg (X.map cb).toArray) := hf_ 1 109 _ (by decide) rfl rfl
            have h110 : f_ 110 = (.agg (Y.map cb).toArray) := hf_ 2 110 _ (by decide) rfl rfl
            have h111 : f_ 111 = (.agg ((X ++ Y).map cb).toArray) := hf_ 3 111 _ (by decide) rfl rfl
            have h8 : f_ 8 = (.slice A8 Rs.length c8) := hf_ 4 8 _ (by decide) rfl rfl
            simp only [mix, List.drop_succ_cons, List.drop_zero, h108, h109, h110, h111, h8]
            clear h108 h109 h110 h111 h8
            clear hf_
            have hzw := HZZ.out.below hx_ HZZ.out.lt
            have hlw := own_keep HLO.out hx_
            have hww := HWS.out.below hx_
            have HBz := hid (bx_trans HB2.out hx_)
            clear hx_
            go_wp2_with ((with_reducible refine wpAtC ?_); refine wpList_store_agg rfl _ _ _ rfl _ _ rfl ((X ++ Y).map cb).toArray rfl (aggHHS hxy) hzw (szHH hxy) (one_cbA _) ?_; intro w17 hp17; simp only [Act.put]; rw [splHH hxy] at hp17)
            refine bodyPost_ret (results_3 rfl rfl (aggHHL hxy) (blk_cells hp17.blk)) rfl ⟨.slice A8 Rs.length c8, vs, ?_, ?_, ?_, bx_put HBz.out hp17 hw9⟩
            · rw [← HX.out, ← HY.out]; rfl
            · rw [← HRs.out]; exact own_put hlw hzw hp17 (by decide)
            · rw [← HRs.out]; exact hww.put hzw hp17 (by decide)
      · have hw2 : P.all id = false := by simpa using hw
        rw [hw2]
        have hp1 : P.length + 1 = p := by have := HLG3.out; rw [if_neg hw] at this; omega
        obtain ⟨x0, hx0⟩ : ∃ x0, x0 = path.getD 0 [] := ⟨_, rfl⟩
        obtain ⟨rest, hrest⟩ : ∃ rest, rest = path.drop 1 := ⟨_, rfl⟩
        have h0l : 0 < path.length := by rw [HPL.out]; omega
        have hx0e : x0 = path[0] := by rw [hx0]; simp [List.getD, h0l]
        have HX0 : Hid (cfst m n old path = x0) := hid (by unfold cfst; rw [HWH.out, HDD.out, if_neg hw, hx0])
        have HRS : Hid (crest m n path = rest) := hid (by unfold crest; rw [HWH.out, HDD.out, if_neg hw, hrest])
        have hx0l : x0.length = 32 := by rw [hx0e]; exact H32.out _ (List.getElem_mem h0l)
        have hrl0 : rest.length = p - 1 := by rw [hrest, List.length_drop, HPL.out]
        have HR32 := hid (show ∀ x ∈ rest, x.length = 32 from fun x hx => H32.out x (by rw [hrest] at hx; exact List.mem_of_mem_drop hx))
        obtain ⟨b, off, rfl, _, _⟩ := HRP.out.at_ (k := 0) (by rw [List.length_map, hs_len H32.out, HPL.out]; omega)
        obtain ⟨hbB, hpw⟩ := rd_hash HRP.out H32.out 0 h0l
        rw [Nat.zero_mul, Nat.add_zero, ← hx0e] at hpw
        have HPW := hid hpw
        have HRR : Hid (Rd w w.heap.size (if c = 1 then some ⟨b, off, none⟩ else some ⟨b, off + 32, none⟩) (rest.flatten.map cb)) := hid (by
          rw [hrest]
          by_cases hc1 : c = 1
          · have hd0 : path.drop 1 = [] := List.drop_eq_nil_of_le (by rw [HPL.out]; omega)
            rw [hd0]
            exact .inl rfl
          · rw [if_neg hc1]
            have := rd_dropH HRP.out H32.out 1
            simpa using this)
        have hao0 := aggHL hx0l
        have HVV : Hid (V = chL wide P x0 rest) := hid (by rw [HV.out, HX0.out, HRS.out, HDD.out])
        obtain ⟨r, hr⟩ : ∃ r, r = p - 1 := ⟨_, rfl⟩
        rw [← hr] at hrl0
        have HRL := hid hrl0
        have HPR : Hid (P.length = r) := hid (by omega)
        have hpr : p = r + 1 := by omega
        have hp1i : (1 : Int) ≤ (p : Int) := by omega
        have hp1n : 1 ≤ p := by omega
        have hp0n : 0 < p := by omega
        have hc1n : 1 ≤ c := by omega
        have hc1i : (1 : Int) ≤ (c : Int) := by omega
        have HRP1 := hid hr
        clear hw hw2 hp1 hx0 hrest h0l hx0e hpw hrl0 hr hpr
        go_wp2_with (first
          | ((with_reducible refine wpAtC ?_); refine wpList_load_agg rfl _ _ rfl _ _ rfl (old.map cb) hao hr5 ?_; simp only [Act.put, List.setIfInBounds_toArray, List.set_cons_succ, List.set_cons_zero])
          | ((with_reducible refine wpAtC ?_); refine wpList_alloc (w := wr) rfl _ rfl zeroH ?_; intro g17 w12 hg17 hg17' hz12 hb12; simp only [Act.put, List.setIfInBounds_toArray, List.set_cons_succ, List.set_cons_zero])
          | ((with_reducible refine wpAtC ?_); refine wpList_store_agg rfl _ _ _ rfl _ _ rfl (old.map cb).toArray rfl (aggHS ho) hz12 (szH ho) (one_cbA _) ?_; intro w13 hp13; simp only [Act.put]; rw [splH ho] at hp13; have hb13 := hb12.trans (hp13.below hg17); have hx13 := hp13.blk))
        have hbd : Below w13.heap.size w13 w13.drew := bx_drew (Below.refl _ _)
        have hx13d := hx13.below hbd hx13.lt
        have hbd2 := bx_trans HB.out (bx_trans hb13 hbd)
        have hpd := fun i v hv => (hbd2.cell (p := ⟨b, off + i, none⟩) hbB).trans (HPW.out i v hv)
        have hszo : 0 + (x0.map cb).toArray.size ≤ (old.map cb).toArray.size := by simp [hx0l, ho]
        have hspo : spl (old.map cb).toArray 0 (x0.map cb).toArray.toList = (x0.map cb).toArray := spl_whole (by simp [hx0l, ho])
        refine wp_flowK (by kernel_rfl) [0, 1, 3, 0, 8, 7, 63] 6 [false, false, false, false, false, false, false, false, false, false, false, false, false, false, false, false, false, false, false, false, false, false, false, false, false, false, false, false, false, false, false, false, false, false, false, false, false, false, false, false, false, false, false, false, false, false, false, false, false, false, false, false, false, false, false, false, false, false, false, false, false, false, false, false, false, false, false, false, true, true, true, true, true] (by kernel_rfl) (by decide) (by kernel_rfl) [KP.eq (.slice (some ⟨b, off, none⟩) p c), KP.eq (.pointer (some ⟨b, off, none⟩)), KP.eq (.agg (x0.map cb).toArray), KP.eq (.slice (some ⟨b, off, none⟩) p c), KP.eq (.slice (if c = 1 then some ⟨b, off, none⟩ else some ⟨b, off + 32, none⟩) (p - 1) (c - 1)), KP.any] [5] (fun ks w' => match ks with | [some v] => Put w13.drew w' g17 tH (x0.map cb).toArray | _ => w' = w13.drew) ?_ ?_ ?_
        · exact rfl
        · refine allFrom_cons ?_ ?_
          · refine stepK_by (by decide) ?_
            intro f_ a_ w_ hM_ hk_
            have h3 : a_.eval (.tmp 3) = .slice (some ⟨b, off, none⟩) p c := hk_.old 3 (by kernel_rfl)
            have k5 := hk_.later 5 _ (by kernel_rfl) rfl
            clear hk_
            refine flow_plain rfl ?_
            exact gives_move rfl ⟨hM_, h3⟩
          refine allFrom_cons ?_ ?_
          · refine stepK_by (by decide) ?_
            intro f_ a_ w_ hM_ hk_
            have h68 : a_.eval (.tmp 68) = (.slice (some ⟨b, off, none⟩) p c) := hk_.got 0 68 _ (by kernel_rfl) rfl rfl
            have k5 := hk_.later 5 _ (by kernel_rfl) rfl
            clear hk_
            refine flow_plain rfl ?_
            refine gives_keep hM_ ?_
            unfold gives
            have hc_ : ∀ v, a_.eval (.const v) = v := fun _ => rfl
            have hn_ : ∀ f, a_.eval (.func f) = .func (.func f) #[] #[] := fun _ => rfl
            generalize a_.eval = ρ_ at *
            go_simp
            exact ⟨rfl, rfl⟩
          refine allFrom_cons ?_ ?_
          · refine stepK_by (by decide) ?_
            intro f_ a_ w_ hM_ hk_
            have h69 : a_.eval (.tmp 69) = (.pointer (some ⟨b, off, none⟩)) := hk_.got 1 69 _ (by kernel_rfl) rfl rfl
            have k5 := hk_.later 5 _ (by kernel_rfl) rfl
            clear hk_
            refine flow_plain rfl ?_
            have hM := hM_
            simp only [List.map_cons, List.map_nil, k5] at hM
            exact gives_load_agg rfl h69 hao0 (by rw [show w_ = w13.drew from hM]; exact hpd) ⟨hM_, rfl⟩
          refine allFrom_cons ?_ ?_
          · refine stepK_by (by decide) ?_
            intro f_ a_ w_ hM_ hk_
            have h3 : a_.eval (.tmp 3) = .slice (some ⟨b, off, none⟩) p c := hk_.old 3 (by kernel_rfl)
            clear hk_
            refine flow_plain rfl ?_
            exact gives_move rfl ⟨hM_, h3⟩
          refine allFrom_cons ?_ ?_
          · refine stepK_by (by decide) ?_
            intro f_ a_ w_ hM_ hk_
            have h71 : a_.eval (.tmp 71) = (.slice (some ⟨b, off, none⟩) p c) := hk_.got 3 71 _ (by kernel_rfl) rfl rfl
            clear hk_
            refine flow_plain rfl ?_
            refine gives_keep hM_ ?_
            unfold gives
            have hc_ : ∀ v, a_.eval (.const v) = v := fun _ => rfl
            have hn_ : ∀ f, a_.eval (.func f) = .func (.func f) #[] #[] := fun _ => rfl
            generalize a_.eval = ρ_ at *
            go_simp
            exact ⟨rfl, rfl⟩
          refine allFrom_cons ?_ ?_
          · intro f_ a_ w_ hM_ hk_
            have h17 : a_.eval (.tmp 17) = .pointer (some ⟨g17, 0, none⟩) := hk_.old 17 (by kernel_rfl)
            have h70 : a_.eval (.tmp 70) = (.agg (x0.map cb).toArray) := hk_.got 2 70 _ (by kernel_rfl) rfl rfl
            have k5 : f_ 5 = none := hk_.un
            clear hk_
            simp only [List.map_cons, List.map_nil, k5] at hM_
            simp only [List.map_cons, List.map_nil, upd_same]
            refine flow_plain rfl ?_
            subst hM_
            exact gives_store_agg rfl h17 h70 (aggHS hx0l) hx13d hszo (one_cbA _) fun w1 hp => ⟨by rw [hspo] at hp; exact hp, trivial⟩
          exact allFrom_nil
        intro f_ y_ w_ hM_ hf_ hd_
        have h68 : f_ 68 = (.slice (some ⟨b, off, none⟩) p c) := (hf_ 0 68 _ (by decide) rfl rfl).1
        have h69 : f_ 69 = (.pointer (some ⟨b, off, none⟩)) := (hf_ 1 69 _ (by decide) rfl rfl).1
        have h70 : f_ 70 = (.agg (x0.map cb).toArray) := (hf_ 2 70 _ (by decide) rfl rfl).1
        have h71 : f_ 71 = (.slice (some ⟨b, off, none⟩) p c) := (hf_ 3 71 _ (by decide) rfl rfl).1
        have h72 : f_ 72 = (.slice (if c = 1 then some ⟨b, off, none⟩ else some ⟨b, off + 32, none⟩) (p - 1) (c - 1)) := (hf_ 4 72 _ (by decide) rfl rfl).1
        obtain ⟨x5, k5⟩ := hd_ 5 (by decide)
        simp only [List.map_cons, List.map_nil, k5] at hM_
        simp only [mix, List.drop_succ_cons, List.drop_zero, h68, h69, h70, h71, h72]
        clear hf_ hd_ h68 h69 h70 h71 h72 k5
        have hb1316 : Below w13.heap.size w13 w13 := Below.refl _ _
        have hg17n := hx13.lt
        have hpbw : Below w.heap.size w _ := bx_put hbd2 hM_ (Nat.le_trans hbs hg17)
        have hxA0 := hM_.blk
        have hzA0 := hM_.other (HZB.out.below (bx_trans hb13 hbd) HZB.out.lt) (by have := HZB.out.lt; omega)
        have hOA0 := own_put (own_keep HO.out (bx_trans hb13 hbd)) hx13d hM_ (by decide)
        have hg17A : w.heap.size ≤ g17 := Nat.le_trans hbs hg17
        have hg917A : g9 < g17 := Nat.lt_of_lt_of_le HZB.out.lt hg17
        have hrr : p - 1 = r := HRP1.out.symm
        rw [hrr]
        generalize (if c = 1 then some (⟨b, off, none⟩ : Addr) else some ⟨b, off + 32, none⟩) = AR at *
        generalize c - 1 = cR at *
        rename World => w14
        clear hx13 hx13d hbd hbd2 hb13 hp13 hb12 hz12 hM_ hpd hszo hspo hrr hb1316 hg17n HKB HZB HO hg17' hao hr5
        go_wp2_with (first
          | ((with_reducible refine wpAtC ?_); refine wpList_load_agg rfl _ _ rfl _ _ rfl (x0.map cb) hao0 (blk_cells hxA0) ?_; simp only [Act.put, List.setIfInBounds_toArray, List.set_cons_succ, List.set_cons_zero])
          | ((with_reducible refine wpAtC ?_); refine wpList_alloc (w := w14) rfl _ rfl zeroH ?_; intro g19 w15 hg19 hg19' hz15 hb15; simp only [Act.put, List.setIfInBounds_toArray, List.set_cons_succ, List.set_cons_zero])
          | ((with_reducible refine wpAtC ?_); refine wpList_store_agg rfl _ _ _ rfl _ _ rfl (x0.map cb).toArray rfl (aggHS hx0l) hz15 (szH hx0l) (one_cbA _) ?_; intro w16 hp16; simp only [Act.put]; rw [splH hx0l] at hp16; have hb1316 := hb15.trans (hp16.below hg19)))
        have hxA := hxA0
        have hzA := hzA0
        have hOA := hOA0
        have hbA := hpbw
        clear hxA0 hzA0 hOA0 hpbw
        have hx17 := hxA.below hb1316 hxA.lt
        have hx19 := hp16.blk
        have hzb16 := hzA.below hb1316 hzA.lt
        have hO16 := own_keep hOA hb1316
        have hb16 := bx_trans hbA hb1316
        have hg179 : g17 < g19 := Nat.lt_of_lt_of_le hxA.lt hg19
        have hg9l := hzA.lt
        have hg17w : w.heap.size ≤ g17 := hg17A
        have hg19w : w.heap.size ≤ g19 := Nat.le_trans hg17w (Nat.le_of_lt hg179)
        have hg917 : g9 < g17 := hg917A
        have HDR := hid (show P.length = rest.length by rw [HRL.out]; exact HPR.out)
        have HFT : Hid (x0.length = 32) := hid hx0l
        clear hp16 hz15 hb15 hb1316 hxA hzA hOA hbA hg17A hg917A
        go_loopw [18, 20, 21, 22, 76] (fun v18 _ _ _ v76 wx => ∃ (j : Nat) (vs : List Value), j ≤ r ∧ v76 = .int .i64 (j : Int) ∧ wx.ownsRow w.heap.size tBy 1 v18 (chTo wide P x0 rest j).1.length vs ∧ Owns wx w.heap.size vs (chTo wide P x0 rest j).1 ∧ Blk wx g17 tH ((chTo wide P x0 rest j).2.1.map cb).toArray ∧ Blk wx g19 tH ((chTo wide P x0 rest j).2.2.map cb).toArray ∧ Blk wx g9 tHH (Value.agg (List.replicate 64 (cb 0)).toArray).cells ∧ wx.ownsRow w.heap.size 4 1 (.slice A6 P.length c6) P.length (P.map bvl) ∧ Below w.heap.size w wx) (fun _ _ _ _ v76 _ => r - (intOf v76).toNat)
        case atStart => exact ⟨0, [], Nat.zero_le _, rfl, nil_ownC _ _ _ _, fun k v l h1 _ => (by simp at h1), hx17, hx19, hzb16, hO16, hb16⟩
        case round =>
          obtain ⟨j, vs, hj, rfl, hl, hws, hx, hy, hzz, hff, hbx⟩ := hrel
          rename World => wx
          clear hx17 hx19 hzb16 hO16 hb16
          have hrl := chTo_len (wide := wide) (x := x0) HDR.out j (by rw [HRL.out]; exact hj)
          obtain ⟨hrx, hry⟩ := chTo_hash (wide := wide) HDR.out HFT.out j (by rw [HRL.out]; exact hj)
          obtain ⟨A8, c8, rfl, _, _, _⟩ := own_form hl
          have HLO := hid hl
          have HWS := hid hws
          have HXB := hid hx
          have HYB := hid hy
          have HZZ := hid hzz
          have HFF := hid hff
          clear hl hws hx hy hzz hff
          by_cases hlt : j < r
          · have hjr : j < rest.length := by rw [HRL.out]; exact hlt
            have hsucc := chTo_succ (wide := wide) (x := x0) HDR.out hjr
            have hPr : P.length = r := HPR.out
            obtain ⟨k, hk⟩ : ∃ k : Nat, k = P.length - 1 - j := ⟨_, rfl⟩
            have hkl : k < P.length := by omega
            rw [show P[P.length - 1 - j]'(by omega) = P[k] by simp only [hk]] at hsucc
            have hhl := HR32.out _ (List.getElem_mem hjr)
            obtain ⟨b, off, rfl, _, _⟩ := HRR.out.at_ (k := j) (by rw [List.length_map, hs_len HR32.out, HRL.out]; omega)
            obtain ⟨hbB, hpw⟩ := rd_hash HRR.out HR32.out j hjr
            have hpc := fun i v hv => (hbx.cell (p := ⟨b, off + j * 32 + i, none⟩) hbB).trans (hpw i v hv)
            clear hpw
            obtain ⟨gD, capD, heD, _, hgD, _, _⟩ := own_block HFF.out (by omega)
            injection heD with heD _ heD2
            subst heD heD2
            have hcD : wx.cell? ⟨gD, k, none⟩ = some (.bool P[k]) := by
              obtain ⟨b', off', he, _, hc'⟩ := (own_rd HFF.out).at_ (k := k) (by rw [List.length_map]; exact hkl)
              injection he with he
              injection he with e1 e2
              subst e1 e2
              have := hc' k (bvl P[k]) (by rw [List.getElem?_map, List.getElem?_eq_getElem hkl]; rfl)
              rw [Nat.zero_add] at this
              exact this
            generalize rest[j] = h at *
            generalize P[k] = d at *
            obtain ⟨q1, hq1⟩ : ∃ q : Nat, q = P.length - 1 := ⟨_, rfl⟩
            have e1 : (P.length : Int) - 1 = (q1 : Int) := by omega
            have e2 : (q1 : Int) - (j : Int) = (k : Int) := by omega
            obtain ⟨Rs, hRs⟩ : ∃ Rs, Rs = (chTo wide P x0 rest j).1 := ⟨_, rfl⟩
            obtain ⟨X, hX⟩ : ∃ X, X = (chTo wide P x0 rest j).2.1 := ⟨_, rfl⟩
            obtain ⟨Y, hY⟩ : ∃ Y, Y = (chTo wide P x0 rest j).2.2 := ⟨_, rfl⟩
            have h1s := congrArg Prod.fst hsucc
            have h2s := congrArg (fun s => s.2.1) hsucc
            have h3s := congrArg (fun s => s.2.2) hsucc
            change _ = (chTo wide P x0 rest j).1 ++ [rowOf d (chTo wide P x0 rest j).2.2 h] at h1s
            change _ = (if d then (chTo wide P x0 rest j).2.1 else narL wide (rowOf false (chTo wide P x0 rest j).2.1 h)) at h2s
            change _ = narL wide (rowOf d (chTo wide P x0 rest j).2.2 h) at h3s
            rw [← hRs, ← hY] at h1s
            rw [← hX] at h2s
            rw [← hY] at h3s
            rw [← hRs] at hrl HLO HWS ⊢
            rw [← hX] at hrx HXB
            rw [← hY] at hry HYB
            have HS1 := hid h1s
            have HS2 := hid h2s
            have HS3 := hid h3s
            have HPC := hid hpc
            have HB2 := hid hbx
            have hah := aggHL hhl
            have hblw : b < wx.heap.size := Nat.lt_of_lt_of_le hbB hbx.size
            have hpj : j < P.length := by omega
            have h63 : Rs.length + 1 ≤ maxLen := by unfold maxLen; omega
            have hby : (Rs.length + 1) * 24 ≤ 140737488355328 := by omega
            have hneg : ((q1 : Int) - (j : Int)) = (k : Int) := e2
            clear hsucc hq1 hk hpc hbx hRs hX hY h1s h2s h3s hPr hrl hneg
            go_wp2_with (first
              | ((with_reducible refine wpAtC ?_); refine wpList_load_agg rfl _ _ rfl _ _ rfl (h.map cb) hah HPC.out ?_; simp only [Act.put, List.setIfInBounds_toArray, List.set_cons_succ, List.set_cons_zero])
              | ((with_reducible refine wpAtC ?_); refine wpList_alloc (w := wx) rfl _ rfl zeroH ?_; intro g21 w12 hg21 hg21' hz12 hb12; simp only [Act.put, List.setIfInBounds_toArray, List.set_cons_succ, List.set_cons_zero])
              | ((with_reducible refine wpAtC ?_); refine wpList_store_agg rfl _ _ _ rfl _ _ rfl (h.map cb).toArray rfl (aggHS hhl) hz12 (szH hhl) (one_cbA _) ?_; intro w13 hp13; simp only [Act.put]; rw [splH hhl] at hp13; have hb13 := hb12.trans (hp13.below hg21); have hcD13 := hb13.cell (p := ⟨gD, k, none⟩) hgD; rw [hcD] at hcD13; have hy13 := HYB.out.below hb13 HYB.out.lt; have hh13 := hp13.blk)
              | ((with_reducible refine wpAtC ?_); refine wpList_load_agg rfl _ _ rfl _ _ rfl (h.map cb) hah (blk_cells hh13) ?_; simp only [Act.put, List.setIfInBounds_toArray, List.set_cons_succ, List.set_cons_zero])
              | ((with_reducible refine wpAtC ?_); refine wpList_load_agg rfl _ _ rfl _ _ rfl (Y.map cb) (aggHL hry) (blk_cells hy13) ?_; simp only [Act.put, List.setIfInBounds_toArray, List.set_cons_succ, List.set_cons_zero]))
            refine (both_any w13 hhl hry).mono ?_
            rintro e w14 ⟨v14, rfl, hv14, hb14⟩
            have hb014 : Below wx.heap.size wx w14 := bx_trans hb13 hb14
            have hy14 := hy13.below hb14 hy13.lt
            have hh14 := hh13.below hb14 hh13.lt
            have hx14 := HXB.out.below hb014 HXB.out.lt
            have hcD14 := hb14.cell (p := ⟨gD, k, none⟩) (Nat.lt_of_lt_of_le hgD hb13.size)
            rw [hcD13] at hcD14
            have hw13 := (bx_trans HB2.out hb13).size
            obtain ⟨row0, hrow0⟩ : ∃ r : List UInt8, r = rowOf false Y h := ⟨_, rfl⟩
            have HR065 : Hid (row0.length = 65) := hid (by rw [hrow0]; show (1 :: (_ ++ _) : List UInt8).length = 65; rw [List.length_cons, List.length_append, hhl, hry])
            have hv14 : OwnB w14 w13.heap.size v14 row0 := by rw [hrow0]; exact hv14
            have HROW0 := hid hrow0
            have HV14 := hid (OwnB.more hv14 hw13)
            obtain ⟨A14, c14, rfl, _, _, _⟩ := own_form hv14
            clear hrow0
            clear hcD13 hh13 hy13 hz12 hp13 hb12 hv14 hcD
            cases d with
            | true =>
              go_wp2_with (first
                | ((with_reducible refine wpAtC ?_); refine wpList_load_agg rfl _ _ rfl _ _ rfl (Y.map cb) (aggHL hry) (blk_cells hy14) ?_; simp only [Act.put, List.setIfInBounds_toArray, List.set_cons_succ, List.set_cons_zero])
                | ((with_reducible refine wpAtC ?_); refine wpList_load_agg rfl _ _ rfl _ _ rfl (h.map cb) hah (blk_cells hh14) ?_; simp only [Act.put, List.setIfInBounds_toArray, List.set_cons_succ, List.set_cons_zero]))
              refine (both_any w14 hry hhl).mono ?_
              rintro e wA ⟨v15, rfl, hv15, hb15⟩
              have hb0A := bx_trans hb014 hb15
              have hbA := bx_trans HB2.out hb0A
              obtain ⟨row, hrow⟩ : ∃ r : List UInt8, r = rowOf true Y h := ⟨_, rfl⟩
              have HRW : Hid (row.length = 65) := hid (by rw [hrow]; show (1 :: (_ ++ _) : List UInt8).length = 65; rw [List.length_cons, List.length_append, hhl, hry])
              have hVA : OwnB wA w.heap.size v15 row := by rw [hrow]; exact OwnB.more hv15 (bx_trans HB2.out hb014).size
              have HR1 : Hid ((chTo wide P x0 rest (j + 1)).1 = Rs ++ [row]) := hid (by rw [hrow]; exact HS1.out)
              have HR3 : Hid ((chTo wide P x0 rest (j + 1)).2.2 = narL wide row) := hid (by rw [hrow]; exact HS3.out)
              clear hrow
              have HXN : Hid ((chTo wide P x0 rest (j + 1)).2.1 = X) := hid HS2.out
              have hlA := own_keep HLO.out hb0A
              have hwA := HWS.out.below hb0A
              have hfA := own_keep HFF.out hb0A
              have hxA := HXB.out.below hb0A HXB.out.lt
              have hyA := HYB.out.below hb0A HYB.out.lt
              have hzA := HZZ.out.below hb0A HZZ.out.lt
              obtain ⟨A15, c15, rfl, _, _, _⟩ := own_form hVA
              clear hv15 hb15 hb0A hy14 hh14 hx14 hcD14
              have hone : ∀ u ∈ [Value.slice A15 row.length c15], u.oneCell' = true := by intro u hu; simp at hu; subst hu; rfl
              have hbs : Below wA.heap.size wA (wA.alloc (.cells #[.slice A15 row.length c15] tBy)) := bx_alloc (Below.refl _ _) _
              have hlB := own_keep hlA hbs
              have rdB : Rd (wA.alloc (.cells #[.slice A15 row.length c15] tBy)) (wA.alloc (.cells #[.slice A15 row.length c15] tBy)).heap.size (some ⟨wA.heap.size, 0, none⟩) [.slice A15 row.length c15] := rd_of_row (heap_new rfl) rfl
              have hwB : w.heap.size ≤ (wA.alloc (.cells #[.slice A15 row.length c15] tBy)).heap.size := (bx_trans hbA hbs).size
              have hxB := hxA.below hbs hxA.lt
              have hyB := hyA.below hbs hyA.lt
              have hzB := hzA.below hbs hzA.lt
              have hfB := own_keep hfA hbs
              have hWB := hwA.below hbs
              have hVB := hVA.below hbs
              have hbB := bx_trans hbA hbs
              have HLB := hid hlB
              have HRB := hid rdB
              clear hlA hxA hyA hzA hfA hwA hVA hbA hbs hlB rdB
              go_wp2_with (at_builtin; refine wpList_app rfl _ _ _ rfl _ rfl _ _ _ rfl elBy HLB.out HRB.out rfl hone h63 hby hwB ?_; intro v18 w18 hown18 hg18 hat18)
              have hb18 := own_below hbB HLB.out hg18
              have hx18 := grown_blk HLB.out hg18 hxB (by decide)
              have hy18 := grown_blk HLB.out hg18 hyB (by decide)
              have hz18 := grown_blk HLB.out hg18 hzB (by decide)
              have hf18 := own_grow hfB HLB.out hg18 (by decide)
              have hV18 : OwnB w18 w.heap.size _ row := own_grow hVB HLB.out hg18 (by decide)
              have hW18 := Owns.snoc (hWB.grown HLB.out hg18 (by decide)) (by have := HLB.out.1; omega) hV18
              rw [← HR1.out] at hW18
              obtain ⟨A18, c18, e18, q18, r18⟩ := hV18.rd
              injection e18 with e18 _ e18'
              subst e18 e18'
              have HNR := hid (narrow_any w18 (HL.out.below hb18) wide r18 (Nat.le_refl _) q18 (by rw [HRW.out]; decide))
              clear hxB hyB hzB hfB hWB hVB hbB HLB HRB hg18 hat18 r18
              go_wp2_with fail
              refine HNR.out.mono ?_
              rintro e w19 ⟨rfl, hb19⟩
              have hnl := narL_len wide row
              rw [← HR3.out] at hnl ⊢
              obtain ⟨N, hN⟩ : ∃ N, N = (chTo wide P x0 rest (j + 1)).2.2 := ⟨_, rfl⟩
              rw [← hN] at hnl ⊢
              have HN := hid hN
              have hy19 := hy18.below hb19 hy18.lt
              have hsz : 0 + (N.map cb).toArray.size ≤ (Y.map cb).toArray.size := by simp [hnl, hry]
              have hsp : spl (Y.map cb).toArray 0 (N.map cb).toArray.toList = (N.map cb).toArray := spl_whole (by simp [hnl, hry])
              clear hN HNR
              go_wp2_with ((with_reducible refine wpAtC ?_); refine wpList_store_agg rfl _ _ _ rfl _ _ rfl (N.map cb).toArray rfl (aggHS hnl) hy19 hsz (one_cbA _) ?_; intro w20 hp20; simp only [Act.put]; rw [hsp] at hp20)
              have q1 := own_put (own_keep hown18 hb19) hy19 hp20 (by decide)
              have q2 := (hW18.below hb19).put hy19 hp20 (by decide)
              have q3 := hp20.other (hx18.below hb19 hx18.lt) (by omega)
              have q4 := hp20.other (hz18.below hb19 hz18.lt) (by omega)
              have q5 := own_put (own_keep hf18 hb19) hy19 hp20 (by decide)
              have q6 := bx_put (bx_trans hb18 hb19) hp20 hg19w
              have q7 := hp20.blk
              have HS1L : Hid ((chTo wide P x0 rest (j + 1)).1.length = Rs.length + 1) := hid (by rw [HR1.out, List.length_append]; rfl)
              clear hy19 hp20 hb19 hsp hsz hown18 hW18 hx18 hz18 hf18 hb18
              go_roundw
              case rel => exact ⟨j + 1, vs ++ [_], by omega, rfl, by rw [HS1L.out]; exact q1, q2, by rw [HXN.out]; exact q3, by rw [← HN.out]; exact q7, q4, q5, q6⟩
              case measure => simp [intOf]; omega
            | false =>
              go_wp2_with (first
                | ((with_reducible refine wpAtC ?_); refine wpList_load_agg rfl _ _ rfl _ _ rfl (h.map cb) hah (blk_cells hh14) ?_; simp only [Act.put, List.setIfInBounds_toArray, List.set_cons_succ, List.set_cons_zero])
                | ((with_reducible refine wpAtC ?_); refine wpList_load_agg rfl _ _ rfl _ _ rfl (X.map cb) (aggHL hrx) (blk_cells hx14) ?_; simp only [Act.put, List.setIfInBounds_toArray, List.set_cons_succ, List.set_cons_zero]))
              refine (both_any w14 hhl hrx).mono ?_
              rintro e w15 ⟨v15, rfl, hv15, hb15⟩
              have hb015 := bx_trans hb014 hb15
              have hbW15 := bx_trans HB2.out hb015
              obtain ⟨row1, hrow1⟩ : ∃ row1 : List UInt8, row1 = 1 :: (h ++ X) := ⟨_, rfl⟩
              rw [← hrow1] at hv15
              have hX2 : (chTo wide P x0 rest (j + 1)).2.1 = narL wide row1 := by rw [hrow1]; exact HS2.out
              have HR65 : Hid (row1.length ≤ 800000000) := hid (by rw [hrow1]; simp [hhl, hrx])
              clear hrow1
              obtain ⟨A16, c16, e16, q16, r16⟩ := hv15.rd
              subst e16
              have HNX := hid (narrow_any w15 (HL.out.below hbW15) wide r16 (Nat.le_refl _) q16 HR65.out)
              have HX2 := hid hX2
              clear hX2
              clear r16 hv15 hcD14 hh14 hy14
              go_wp2_with fail
              refine HNX.out.mono ?_
              rintro e w17 ⟨rfl, hb17⟩
              have hnl := narL_len wide row1
              have hX2 := HX2.out
              obtain ⟨N1, hN1⟩ : ∃ N1, N1 = narL wide row1 := ⟨_, rfl⟩
              rw [← hN1] at hnl hX2 ⊢
              have HXN := hid hX2
              have hb017 := bx_trans hb015 hb17
              have hx17 := HXB.out.below hb017 HXB.out.lt
              have hsz : 0 + (N1.map cb).toArray.size ≤ (X.map cb).toArray.size := by simp [hnl, hrx]
              have hsp : spl (X.map cb).toArray 0 (N1.map cb).toArray.toList = (N1.map cb).toArray := spl_whole (by simp [hnl, hrx])
              have HB017 := hid hb017
              have HB17 := hid (bx_trans hb15 hb17)
              clear hN1 HNX hX2 hb17 hb15 hb017 hbW15 hb015 hx14
              have HR1 : Hid ((chTo wide P x0 rest (j + 1)).1 = Rs ++ [row0]) := hid (by rw [HROW0.out]; exact HS1.out)
              have HR3 : Hid ((chTo wide P x0 rest (j + 1)).2.2 = narL wide row0) := hid (by rw [HROW0.out]; exact HS3.out)
              have HRW := HR065
              have hone : ∀ u ∈ [Value.slice A14 row0.length c14], u.oneCell' = true := by intro u hu; simp at hu; subst hu; rfl
              go_wp2_with (first
                | ((with_reducible refine wpAtC ?_); refine wpList_store_agg rfl _ _ _ rfl _ _ rfl (N1.map cb).toArray rfl (aggHS hnl) hx17 hsz (one_cbA _) ?_; intro wA hpA; simp only [Act.put]; rw [hsp] at hpA; have hbA := bx_put (bx_trans HB2.out HB017.out) hpA hg17w; have hVA : OwnB wA w.heap.size (.slice A14 row0.length c14) row0 := own_put (HV14.out.below HB17.out) hx17 hpA (by decide); have hlA := own_put (own_keep HLO.out HB017.out) hx17 hpA (by decide); have hwA := (HWS.out.below HB017.out).put hx17 hpA (by decide); have hfA := own_put (own_keep HFF.out HB017.out) hx17 hpA (by decide); have hxA := hpA.blk; have hyA := hpA.other (HYB.out.below HB017.out HYB.out.lt) (by omega); have hzA := hpA.other (HZZ.out.below HB017.out HZZ.out.lt) (by omega); have hbs : Below wA.heap.size wA (wA.alloc (.cells #[.slice A14 row0.length c14] tBy)) := bx_alloc (Below.refl _ _) _; have hlB := own_keep hlA hbs; have rdB : Rd (wA.alloc (.cells #[.slice A14 row0.length c14] tBy)) (wA.alloc (.cells #[.slice A14 row0.length c14] tBy)).heap.size (some ⟨wA.heap.size, 0, none⟩) [.slice A14 row0.length c14] := rd_of_row (heap_new rfl) rfl; have hwB : w.heap.size ≤ (wA.alloc (.cells #[.slice A14 row0.length c14] tBy)).heap.size := (bx_trans hbA hbs).size; have hxB := hxA.below hbs hxA.lt; have hyB := hyA.below hbs hyA.lt; have hzB := hzA.below hbs hzA.lt; have hfB := own_keep hfA hbs; have hWB := hwA.below hbs; have hVB := hVA.below hbs; have hbB := bx_trans hbA hbs; have HLB := hid hlB; have HRB := hid rdB; clear hlA hxA hyA hzA hfA hwA hVA hbA hbs hlB rdB)
                | (at_builtin; refine wpList_app rfl _ _ _ rfl _ rfl _ _ _ rfl elBy HLB.out HRB.out rfl hone h63 hby hwB ?_; intro v18 w18 hown18 hg18 hat18))
              have hb18 := own_below hbB HLB.out hg18
              have hx18 := grown_blk HLB.out hg18 hxB (by decide)
              have hy18 := grown_blk HLB.out hg18 hyB (by decide)
              have hz18 := grown_blk HLB.out hg18 hzB (by decide)
              have hf18 := own_grow hfB HLB.out hg18 (by decide)
              have hV18 : OwnB w18 w.heap.size _ row0 := own_grow hVB HLB.out hg18 (by decide)
              have hW18 := Owns.snoc (hWB.grown HLB.out hg18 (by decide)) (by have := HLB.out.1; omega) hV18
              rw [← HR1.out] at hW18
              obtain ⟨A18, c18, e18, q18, r18⟩ := hV18.rd
              injection e18 with e18 _ e18'
              subst e18 e18'
              have HNR := hid (narrow_any w18 (HL.out.below hb18) wide r18 (Nat.le_refl _) q18 (by rw [HRW.out]; decide))
              clear hxB hyB hzB hfB hWB hVB hbB HLB HRB hg18 hat18 r18
              go_wp2_with fail
              refine HNR.out.mono ?_
              rintro e w19 ⟨rfl, hb19⟩
              have hnl := narL_len wide row0
              rw [← HR3.out] at hnl ⊢
              obtain ⟨N, hN⟩ : ∃ N, N = (chTo wide P x0 rest (j + 1)).2.2 := ⟨_, rfl⟩
              rw [← hN] at hnl ⊢
              have HN := hid hN
              have hy19 := hy18.below hb19 hy18.lt
              have hsz : 0 + (N.map cb).toArray.size ≤ (Y.map cb).toArray.size := by simp [hnl, hry]
              have hsp : spl (Y.map cb).toArray 0 (N.map cb).toArray.toList = (N.map cb).toArray := spl_whole (by simp [hnl, hry])
              clear hN HNR
              go_wp2_with ((with_reducible refine wpAtC ?_); refine wpList_store_agg rfl _ _ _ rfl _ _ rfl (N.map cb).toArray rfl (aggHS hnl) hy19 hsz (one_cbA _) ?_; intro w20 hp20; simp only [Act.put]; rw [hsp] at hp20)
              have q1 := own_put (own_keep hown18 hb19) hy19 hp20 (by decide)
              have q2 := (hW18.below hb19).put hy19 hp20 (by decide)
              have q3 := hp20.other (hx18.below hb19 hx18.lt) (by omega)
              have q4 := hp20.other (hz18.below hb19 hz18.lt) (by omega)
              have q5 := own_put (own_keep hf18 hb19) hy19 hp20 (by decide)
              have q6 := bx_put (bx_trans hb18 hb19) hp20 hg19w
              have q7 := hp20.blk
              have HS1L : Hid ((chTo wide P x0 rest (j + 1)).1.length = Rs.length + 1) := hid (by rw [HR1.out, List.length_append]; rfl)
              clear hy19 hp20 hb19 hsp hsz hown18 hW18 hx18 hz18 hf18 hb18
              go_roundw
              case rel => exact ⟨j + 1, vs ++ [_], by omega, rfl, by rw [HS1L.out]; exact q1, q2, by rw [HXN.out]; exact q3, by rw [← HN.out]; exact q7, q4, q5, q6⟩
              case measure => simp [intOf]; omega
          · have hall : chTo wide P x0 rest j = V := by rw [HVV.out, ← chTo_all HDR.out, HRL.out, show j = r from by omega]
            rw [hall] at hrl hrx hry HLO HWS HXB HYB ⊢
            obtain ⟨Rs, hRs⟩ : ∃ Rs, Rs = V.1 := ⟨_, rfl⟩
            obtain ⟨X, hX⟩ : ∃ X, X = V.2.1 := ⟨_, rfl⟩
            obtain ⟨Y, hY⟩ : ∃ Y, Y = V.2.2 := ⟨_, rfl⟩
            rw [← hRs] at hrl HLO HWS ⊢
            rw [← hX] at hrx HXB
            rw [← hY] at hry HYB
            have HRs := hid hRs
            have HX := hid hX
            have HY := hid hY
            have HB2 := hid hbx
            have hjp : (r : Int) ≤ (j : Int) := by omega
            have hjp2 : ¬ (j : Int) < (r : Int) := by omega
            have hxy : (X ++ Y).length = 64 := by rw [List.length_append, hrx, hry]
            clear hall hRs hX hY hbx hrl
            go_wp2_with fail
            refine wp_flow (by kernel_rfl) [0, 0, 0, 6, 1, 31, 63] 5 [false, false, false, false, false, false, false, false, true, false, false, false, false, false, false, false, false, false, false, false, false, false, false, false, false, false, false, false, false, false, false, false, false, false, false, false, false, false, false, false, false, false, false, false, false, false, false, false, false, false, false, false, false, false, false, false, false, false, false, false, false, false, false, false, false, false, false, false, false, false, false, false, false, false, false, false, false, false, false, false, false, false, false, false, false, false, false, false, false, false, false, false, false, false, false, false, false, false, false, false, false, false, false, false, false, false, false, false, true, true, true, true] (by kernel_rfl) (by decide) (by kernel_rfl) [FP.eq (.slice A8 Rs.length c8), FP.eq (.agg (X.map cb).toArray), FP.eq (.agg (Y.map cb).toArray), FP.eq (.agg ((X ++ Y).map cb).toArray), FP.eq (.slice A8 Rs.length c8)] ?_ ?_
            · refine allFrom_cons ?_ ?_
              · intro a_ w_ hk_
                have h18 : a_.eval (.tmp 18) = .slice A8 Rs.length c8 := hk_.old 18 (by kernel_rfl)
                have hx_ := hk_.ext
                clear hk_
                refine flow_plain rfl ?_
                exact gives_move rfl ⟨Below.refl _ _, h18⟩
              refine allFrom_cons ?_ ?_
              · intro a_ w_ hk_
                have h17 : a_.eval (.tmp 17) = .pointer (some ⟨g17, 0, none⟩) := hk_.old 17 (by kernel_rfl)
                have hx_ := hk_.ext
                clear hk_
                refine flow_plain rfl ?_
                exact gives_ldC rfl h17 (aggHL hrx) (blk_cells (HXB.out.below hx_ HXB.out.lt)) ⟨Below.refl _ _, rfl⟩
              refine allFrom_cons ?_ ?_
              · intro a_ w_ hk_
                have h19 : a_.eval (.tmp 19) = .pointer (some ⟨g19, 0, none⟩) := hk_.old 19 (by kernel_rfl)
                have hx_ := hk_.ext
                clear hk_
                refine flow_plain rfl ?_
                exact gives_ldC rfl h19 (aggHL hry) (blk_cells (HYB.out.below hx_ HYB.out.lt)) ⟨Below.refl _ _, rfl⟩
              refine allFrom_cons ?_ ?_
              · intro a_ w_ hk_
                have h109 : a_.eval (.tmp 109) = (.agg (X.map cb).toArray) := hk_.got 1 109 _ (by kernel_rfl) rfl rfl
                have h110 : a_.eval (.tmp 110) = (.agg (Y.map cb).toArray) := hk_.got 2 110 _ (by kernel_rfl) rfl rfl
                have hx_ := hk_.ext
                clear hk_
                refine flow_plain rfl ?_
                exact gives_build tHH _ rfl [.agg (X.map cb).toArray, .agg (Y.map cb).toArray] (by simp [h109, h110]) (builtHH hrx hry) ⟨Below.refl _ _, rfl⟩
              refine allFrom_cons ?_ ?_
              · intro a_ w_ hk_
                have h108 : a_.eval (.tmp 108) = (.slice A8 Rs.length c8) := hk_.got 0 108 _ (by kernel_rfl) rfl rfl
                have hx_ := hk_.ext
                clear hk_
                refine flow_plain rfl ?_
                exact gives_assign rfl ⟨Below.refl _ _, h108⟩
              exact allFrom_nil
            intro f_ w_ hx_ hf_
            have h108 : f_ 108 = (.slice A8 Rs.length c8) := hf_ 0 108 _ (by decide) rfl rfl
            have h109 : f_ 109 = (.agg (X.map cb).toArray) := hf_ 1 109 _ (by decide) rfl rfl
            have h110 : f_ 110 = (.agg (Y.map cb).toArray) := hf_ 2 110 _ (by decide) rfl rfl
            have h111 : f_ 111 = (.agg ((X ++ Y).map cb).toArray) := hf_ 3 111 _ (by decide) rfl rfl
            have h8 : f_ 8 = (.slice A8 Rs.length c8) := hf_ 4 8 _ (by decide) rfl rfl
            simp only [mix, List.drop_succ_cons, List.drop_zero, h108, h109, h110, h111, h8]
            clear h108 h109 h110 h111 h8
            clear hf_
            have hzw := HZZ.out.below hx_ HZZ.out.lt
            have hlw := own_keep HLO.out hx_
            have hww := HWS.out.below hx_
            have HBz := hid (bx_trans HB2.out hx_)
            clear hx_
            go_wp2_with ((with_reducible refine wpAtC ?_); refine wpList_store_agg rfl _ _ _ rfl _ _ rfl ((X ++ Y).map cb).toArray rfl (aggHHS hxy) hzw (szHH hxy) (one_cbA _) ?_; intro w17 hp17; simp only [Act.put]; rw [splHH hxy] at hp17)
            refine bodyPost_ret (results_3 rfl rfl (aggHHL hxy) (blk_cells hp17.blk)) rfl ⟨.slice A8 Rs.length c8, vs, ?_, ?_, ?_, bx_put HBz.out hp17 hw9⟩
            · rw [← HX.out, ← HY.out]; rfl
            · rw [← HRs.out]; exact own_put hlw hzw hp17 (by decide)
            · rw [← HRs.out]; exact hww.put hzw hp17 (by decide)
end Go.Proofs.YtgaefejblmnklaaDoor
