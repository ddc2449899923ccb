
/- Clashes: rows walked. -/
import Derived.Test.YtgaefejblmnklaaDoorClAE
namespace Go.Proofs.YtgaefejblmnklaaDoor
open Go.RowKit
set_option linter.unusedVariables false
/-- What rows tells of a place that is. -/
def RowsIn (w : World) (wide : Int) (D : List Bool) (en : List UInt8) (path : List (List UInt8)) (e : Ending) (w' : World) : Prop :=
  Below w.heap.size w w' ∧
  if D.length = path.length then ∃ vo vs, e = .returned (.tuple #[vo, .agg ((rowsL wide D en path).2.map cb).toArray, .int .i64 0]) ∧ w'.ownsRow w.heap.size tBy 1 vo (rowsL wide D en path).1.length vs ∧ Owns w' w.heap.size vs (rowsL wide D en path).1
  else e = .returned (.tuple #[.slice none 0 0, .agg (zeroL.map cb).toArray, .int .i64 20])
set_option maxRecDepth 100000 in
set_option maxHeartbeats 1000000 in
theorem rows_range (w : World) (wide : Int) (size i : Nat) (h : size ≤ i) (va vp : Value) :
    Calls Tryd.prog 18 #[.int .i64 wide, .int .u64 (size : Int), .int .u64 (i : Int), va, vp] w fun e w' => Below w.heap.size w w' ∧ e = .returned (.tuple #[.slice none 0 0, .agg (zeroL.map cb).toArray, .int .i64 15]) := by
  have hb1 : Below w.heap.size w (w.alloc (.cells #[.int .i64 wide] 3)) := bx_alloc (Below.refl _ _) _
  have hi : (size : Int) ≤ (i : Int) := by omega
  have hzl := zeroL_len
  have HZ := hid zeroL_cb
  obtain ⟨Z, hZ⟩ : ∃ Z, Z = zeroL := ⟨_, rfl⟩
  rw [← hZ] at HZ hzl ⊢
  have HZZ := hid hZ
  clear hZ
  go_enter Tryd.func18, Tryd.ntmps18
  go_wp2_with (first
    | ((with_reducible refine wpAtC ?_); refine wpList_alloc rfl _ rfl zeroH ?_; intro g4 w4 hg4 hg4' hblk4 hb4; have hb04 := bx_trans hb1 hb4; have hw4 : w.heap.size ≤ g4 := Nat.le_trans hb1.size hg4; simp only [Act.put, List.setIfInBounds_toArray, List.set_cons_succ, List.set_cons_zero])
    | ((with_reducible refine wpAtC ?_); refine wpList_gives rfl (gives_blt0 (S := fun v w' => v = .agg (List.replicate 32 (cb 0)).toArray ∧ w' = _) rfl ⟨rfl, rfl⟩) ?_; rintro v12 w12 ⟨rfl, rfl⟩; rw [HZ.out]; simp only [Act.put, List.setIfInBounds_toArray, List.set_cons_succ, List.set_cons_zero])
    | ((with_reducible refine wpAtC ?_); refine wpList_store_agg rfl _ _ _ rfl _ _ rfl (Z.map cb).toArray rfl (aggHS hzl) hblk4 (szH hzl) (one_cbA _) ?_; intro w13 hp13; simp only [Act.put]; rw [splH hzl] at hp13))
  exact bodyPost_ret (results_3 rfl rfl (aggHL hzl) (blk_cells hp13.blk)) rfl ⟨bx_put hb04 hp13 hw4, rfl⟩
theorem zeroBB : ZeroT Tryd.prog tBB (.slice none 0 0) := zeroT_of (by kernel_rfl)
theorem grown_blk {w w1 : World} {base e size n : Nat} {v : Value} {xs : List Value} (h : w.ownsRow base e size v n xs) (hg : w.grownBy w1 v.ownBlock) {g t : Nat} {cs : Array Value} (hb : Blk w g t cs) (hne : t ≠ e) : Blk w1 g t cs :=
  (hg.block g hb.lt (fun q => own_ne h hb (fun cur hx => by injection hx with _ hx; exact hne hx) q.symm)).trans hb
set_option maxRecDepth 100000 in
set_option maxHeartbeats 1000000 in
theorem rows_in (w : World) (hL : Laid w) (wide : Int) {size i : Nat} (hsz : size < 18446744073709551616) (hi : i < size) {Ae : Option Addr} {ce : Nat} {en : List UInt8} (hre : Rd w w.heap.size Ae (en.map cb)) (hce : en.length ≤ ce) (hle : en.length ≤ 100000000)
    {Ap : Option Addr} {c p : Nat} {path : List (List UInt8)} (hpl : path.length = p) (h32 : ∀ x ∈ path, x.length = 32) (hrp : Rd w w.heap.size Ap (path.flatten.map cb)) (hp : p ≤ 1000) :
    Calls Tryd.prog 18 #[.int .i64 wide, .int .u64 (size : Int), .int .u64 (i : Int), .slice Ae en.length ce, .slice Ap p c] w (RowsIn w wide (flg size i) en path) := by
  have hsb0 : Blk (w.alloc (.cells #[.int .i64 wide] 3)) w.heap.size 3 #[.int .i64 wide] := Blk.new w _ _
  have hb1 : Below w.heap.size w (w.alloc (.cells #[.int .i64 wide] 3)) := bx_alloc (Below.refl _ _) _
  have hs1 : (w.alloc (.cells #[.int .i64 wide] 3)).heap.size = w.heap.size + 1 := by simp
  have hi2 : ¬ (size : Int) ≤ (i : Int) := by omega
  have hfl := flg_len 64 size i (by omega)
  obtain ⟨D, hD⟩ : ∃ D, D = flg size i := ⟨_, rfl⟩
  rw [← hD] at hfl ⊢
  have HD := hid hD
  have HL := hid hL
  have HRE := hid hre
  have HRP := hid hrp
  have HPL := hid hpl
  have H32 := hid h32
  clear hD hL hre hrp hpl h32
  go_enter Tryd.func18, Tryd.ntmps18
  go_wp2_with (first
    | ((with_reducible refine wpAtC ?_); refine wpList_alloc rfl _ rfl zeroH ?_; intro g4 w4 hg4 hg4' hblk4 hb4; have hb04 := bx_trans hb1 hb4; have hsb4 := hsb0.below hb4 (by omega); simp only [Act.put, List.setIfInBounds_toArray, List.set_cons_succ, List.set_cons_zero]))
  have hs4 := hb4.size
  obtain ⟨gs, hgs⟩ : ∃ gs, gs = w.heap.size := ⟨_, rfl⟩
  have hgs4 : gs < g4 := by omega
  have hgsw : w.heap.size ≤ gs := by omega
  have hw4 : w.heap.size ≤ g4 := by omega
  rw [← hgs] at hsb4 ⊢
  clear hsb0 hb1 hs1 hb4 hg4 hgs
  go_loopw [13, 14, 15, 16] (fun v13 v14 v15 _ wr => ∃ (n' a' : Nat) (P : List Bool), 1 ≤ n' ∧ n' ≤ size ∧ a' < n' ∧ v14 = .int .u64 n' ∧ v15 = .int .u64 a' ∧ wr.ownsRow w.heap.size 4 1 v13 P.length (P.map bvl) ∧ D = P ++ flg n' a' ∧ Blk wr gs 3 #[.int .i64 wide] ∧ Blk wr g4 tH (Value.agg (List.replicate 32 (cb 0)).toArray).cells ∧ Below w.heap.size w wr) (fun _ v14 _ _ _ => (intOf v14).toNat)
  case atStart => exact ⟨size, i, [], by omega, Nat.le_refl _, hi, rfl, rfl, nil_ownC _ _ _ _, by rw [List.nil_append]; exact HD.out, hsb4, hblk4, hb04⟩
  case round =>
    obtain ⟨n', a', P, k1, k2, k3, rfl, rfl, hown, hD, hsb, hzb, hbr⟩ := hrel
    rename World => wr
    obtain ⟨A6, c6, rfl, _, _, _⟩ := own_form hown
    have HO := hid hown
    have HB := hid hbr
    have HSB := hid hsb
    have HZB := hid hzb
    clear hown hbr hsb hzb hsb4 hblk4 hb04
    by_cases hlt : 1 < n'
    · have hsp := split_lt (n := n') (by omega)
      have hsp1 := split_pos (n := n') (by omega)
      have hPl : P.length < 70 := by
        have : D.length = P.length + (flg n' a').length := by rw [hD, List.length_append]
        omega
      have hPli : (P.length : Int) < 70 := by omega
      have hn64 : n' < 18446744073709551616 := by omega
      have HN := hid (fun w' => Split_any w' n' hn64)
      have h63 : P.length + 1 ≤ maxLen := by unfold maxLen; omega
      have hby : (P.length + 1) * 1 ≤ 140737488355328 := by omega
      have hbs := HB.out.size
      by_cases hle : a' < splitN n'
      · have hs := flg_true (n := n') (i := a') hlt hle
        rw [hs] at hD
        generalize splitN n' = s at *
        have HDD := hid hD
        have hown1 := own_keep HO.out (bx_alloc (Below.refl _ wr) (.cells #[.bool true] 4))
        have hb1 := bx_alloc HB.out (.cells #[.bool true] 4)
        have rd1 := rd_of_row (w := wr.alloc (.cells #[.bool true] 4)) (heap_new rfl) (xs := [true].map bvl) rfl
        have hsb1 := HSB.out.below (bx_alloc (Below.refl _ wr) (.cells #[.bool true] 4)) HSB.out.lt
        have hzb1 := HZB.out.below (bx_alloc (Below.refl _ wr) (.cells #[.bool true] 4)) HZB.out.lt
        have hbs1 := hb1.size
        have HO1 := hid hown1
        have HB1 := hid hb1
        have HR1 := hid rd1
        have HSB1 := hid hsb1
        have HZB1 := hid hzb1
        clear hD hs hown1 hb1 rd1 hsb1 hzb1
        go_wp2_with fail
        refine (HN.out wr).mono ?_
        rintro e w5 ⟨rfl, rfl⟩
        go_wp2_with (at_builtin; refine wpList_app rfl _ _ _ rfl _ rfl _ _ _ rfl elBl HO1.out HR1.out rfl (one_bvl _) h63 hby hbs1 ?_; intro v7 w7 hown7 hg7 hat7)
        have HB7 := hid (own_below HB1.out HO1.out hg7)
        have HS7 := hid (grown_blk HO1.out hg7 HSB1.out (by decide))
        have HZ7 := hid (grown_blk HO1.out hg7 HZB1.out (by decide))
        go_roundw
        case rel => exact ⟨s, a', P ++ [true], by omega, by omega, by omega, rfl, rfl, by rw [List.length_append, List.map_append]; exact hown7, by rw [List.append_assoc]; exact HDD.out, HS7.out, HZ7.out, HB7.out⟩
        case measure => simp [intOf]; omega
      · have hs := flg_false (n := n') (i := a') hlt hle
        rw [hs] at hD
        generalize splitN n' = s at *
        have e1 : IntKind.u64.wrap ((n' : Int) - (s : Nat)) = ((n' - s : Nat) : Int) := by simp only [IntKind.wrap, IntKind.bits, IntKind.signed]; simp; omega
        have e2 : IntKind.u64.wrap ((a' : Int) - (s : Nat)) = ((a' - s : Nat) : Int) := by simp only [IntKind.wrap, IntKind.bits, IntKind.signed]; simp; omega
        have HDD := hid hD
        have hown1 := own_keep HO.out (bx_alloc (Below.refl _ wr) (.cells #[.bool false] 4))
        have hb1 := bx_alloc HB.out (.cells #[.bool false] 4)
        have rd1 := rd_of_row (w := wr.alloc (.cells #[.bool false] 4)) (heap_new rfl) (xs := [false].map bvl) rfl
        have hsb1 := HSB.out.below (bx_alloc (Below.refl _ wr) (.cells #[.bool false] 4)) HSB.out.lt
        have hzb1 := HZB.out.below (bx_alloc (Below.refl _ wr) (.cells #[.bool false] 4)) HZB.out.lt
        have hbs1 := hb1.size
        have HO1 := hid hown1
        have HB1 := hid hb1
        have HR1 := hid rd1
        have HSB1 := hid hsb1
        have HZB1 := hid hzb1
        clear hD hs hown1 hb1 rd1 hsb1 hzb1
        go_wp2_with fail
        refine (HN.out wr).mono ?_
        rintro e w5 ⟨rfl, rfl⟩
        go_wp2_with (at_builtin; refine wpList_app rfl _ _ _ rfl _ rfl _ _ _ rfl elBl HO1.out HR1.out rfl (one_bvl _) h63 hby hbs1 ?_; intro v7 w7 hown7 hg7 hat7)
        have HB7 := hid (own_below HB1.out HO1.out hg7)
        have HS7 := hid (grown_blk HO1.out hg7 HSB1.out (by decide))
        have HZ7 := hid (grown_blk HO1.out hg7 HZB1.out (by decide))
        go_roundw
        case rel => exact ⟨n' - s, a' - s, P ++ [false], by omega, by omega, by omega, rfl, rfl, by rw [List.length_append, List.map_append]; exact hown7, by rw [List.append_assoc]; exact HDD.out, HS7.out, HZ7.out, HB7.out⟩
        case measure => simp [intOf]; omega
    · rw [flg_no a' (by omega), List.append_nil] at hD
      have hdl : D.length = P.length := by rw [hD]
      have hn1 : n' = 1 := by omega
      subst hn1
      have HDD := hid hD
      clear hD
      by_cases hlen : P.length = p
      · have hlen2 : ((P.length : Int) == (p : Int)) = true := by simp; omega
        have HLEN := hid hlen
        clear hlen
        go_wp2_with (first
          | ((with_reducible refine wpAtC ?_); refine wpList_alloc rfl _ rfl zeroBB ?_; intro gl w5 hgl hgl' hblk5 hb5; simp only [Act.put, List.setIfInBounds_toArray, List.set_cons_succ, List.set_cons_zero]))
        have hsz5 : (w5.alloc (.cells #[.int .u8 0] tU8)).heap.size = w5.heap.size + 1 := by simp
        have hb05 := bx_trans HB.out hb5
        have hb6 : Below w5.heap.size w5 ((w5.alloc (.cells #[.int .u8 0] tU8)).alloc (.cells #[.slice (some ⟨w5.heap.size, 0, none⟩) 1 1, .slice Ae en.length ce] tBy)) := bx_alloc (bx_alloc (Below.refl _ _) _) _
        have hrr := rdBB_two (t := tBy) (w := w5.alloc (.cells #[.int .u8 0] tU8)) (B := (w5.alloc (.cells #[.int .u8 0] tU8)).heap.size) (l := [0]) (l' := en) (v := .slice (some ⟨w5.heap.size, 0, none⟩) 1 1) (v' := .slice Ae en.length ce) (rdB_of_row (heap_new rfl) rfl rfl (by simp)) ⟨Ae, ce, rfl, hce, (HRE.out.below (bx_alloc hb05 _)).more (bx_alloc hb05 _).size⟩ (Nat.le_refl _)
        rw [hsz5] at hrr
        have hb06 := bx_trans hb05 hb6
        have hbl6 := hblk5.below hb6 hgl'
        have hsb6 := HSB.out.below (bx_trans hb5 hb6) HSB.out.lt
        have hzb6 := HZB.out.below (bx_trans hb5 hb6) HZB.out.lt
        have hO6 := own_keep HO.out (bx_trans hb5 hb6)
        refine (Concat_any _ (ls := [[0], en]) hrr (Nat.le_refl _) (by simp) (by simp; omega)).mono ?_
        clear hrr
        generalize (w5.alloc (.cells #[.int .u8 0] tU8)).alloc (.cells #[.slice (some ⟨w5.heap.size, 0, none⟩) 1 1, .slice Ae en.length ce] tBy) = w6 at *
        rintro e w8 ⟨v8, rfl, hown8, hb8⟩
        rw [show ([[0], en] : List (List UInt8)).flatten = 0 :: en from by simp] at hown8
        have hb08 := bx_trans hb06 hb8
        have hV8 : OwnB w8 w.heap.size v8 (0 :: en) := OwnB.more hown8 hb06.size
        have hsb8 := hsb6.below hb8 hsb6.lt
        have hzb8 := hzb6.below hb8 hzb6.lt
        have hO8 := own_keep hO6 hb8
        have hC8 : RC w8 w.heap.size gl (.slice none 0 0) [] [] := ⟨hbl6.below hb8 hbl6.lt, Nat.le_trans HB.out.size hgl, nil_ownC _ _ _ _, fun k v l h1 _ => by simp at h1⟩
        have HR1 := hid (rows1_any w8 HL.out hb08 (Nat.le_refl _) hb08.size wide hC8 hsb8 hV8 (by simp; omega) (by simp))
        go_wp2_with fail
        refine HR1.out.mono ?_
        rintro e w9 ⟨rfl, vo9, hgo9⟩
        have hsb9 := hgo9.blk hC8 hsb8 (by decide) (by decide)
        have hzb9 := hgo9.blk hC8 hzb8 (by decide) (by decide)
        have hO9 := hgo9.own hC8 hO8 (by decide) (by decide)
        have hb09 := hb08.trans hgo9.below
        have hC9 := hgo9.rc
        have hX := narL_len wide (0 :: en)
        obtain ⟨X, hXe⟩ : ∃ X, X = narL wide (0 :: en) := ⟨_, rfl⟩
        rw [← hXe] at hX ⊢
        have HX := hid hXe
        have HC9 := hid hC9
        have HSB9 := hid hsb9
        have HZB9 := hid hzb9
        have HO9 := hid hO9
        clear hXe hC9 hsb9 hzb9 hO9 hgo9 HR1 hC8 hO8 hzb8 hsb8 hV8 hb08 hown8 hb8 hO6 hzb6 hsb6 hbl6 hb06 hb6 hb05 hsz5 hb5 hblk5
        go_wp2_with (first
          | ((with_reducible refine wpAtC ?_); refine wpList_alloc (w := w9) rfl _ rfl zeroH ?_; intro g19 w10 hg19 hg19' hz10 hb10; simp only [Act.put, List.setIfInBounds_toArray, List.set_cons_succ, List.set_cons_zero])
          | ((with_reducible refine wpAtC ?_); refine wpList_store_agg rfl _ _ _ rfl _ _ rfl (X.map cb).toArray rfl (aggHS hX) hz10 (szH hX) (one_cbA _) ?_; intro w11 hp11; simp only [Act.put]; rw [splH hX] at hp11))
        have hC10 := HC9.out.below hb10
        have hsb10 := HSB9.out.below hb10 HSB9.out.lt
        have hzb10 := HZB9.out.below hb10 HZB9.out.lt
        have hg4s := HZB9.out.lt
        have hgss := HSB9.out.lt
        have hO11 := ownOther (own_keep HO9.out hb10) hp11 (own_ne (own_keep HO9.out hb10) hz10 (fun cur hx => by injection hx with _ hx; exact absurd hx (by decide)))
        have hC11 := hC10.put hz10 hp11 (by decide) (by decide) (by decide)
        have hsb11 := hp11.other hsb10 (by omega)
        have hzb11 := hp11.other hzb10 (by omega)
        have hw9 := hb09.size
        have hb011 := bx_put (bx_trans hb09 hb10) hp11 (by omega)
        have hx11 := hp11.blk
        have HX11 : Hid (X = (rowsTo wide D en path 0).2) := hid HX.out
        clear hC10 hsb10 hzb10 hp11 hz10 hb10
        have hdp : D.length = path.length := by rw [hdl, HPL.out]; exact HLEN.out
        have HDP := hid hdp
        have hpp : P.length = p := HLEN.out
        have hg4w : g4 < w11.heap.size := hzb11.lt
        clear hdp
        go_loopw [20, 21, 63] (fun v20 v21 v63 wx => ∃ (j : Nat) (vo : Value) (vs : List Value), j ≤ p ∧ v63 = .int .i64 (j : Int) ∧ RC wx w.heap.size gl vo vs (rowsTo wide D en path j).1 ∧ Blk wx g19 tH ((rowsTo wide D en path j).2.map cb).toArray ∧ Blk wx gs 3 #[.int .i64 wide] ∧ Blk wx g4 tH (Value.agg (List.replicate 32 (cb 0)).toArray).cells ∧ wx.ownsRow w.heap.size 4 1 (.slice A6 P.length c6) P.length (P.map bvl) ∧ Below w.heap.size w wx) (fun _ _ v63 _ => p - (intOf v63).toNat)
        case atStart => exact ⟨0, vo9, _, Nat.zero_le _, rfl, hC11, by rw [← HX11.out]; exact hx11, hsb11, hzb11, hO11, hb011⟩
        case round =>
          obtain ⟨j, vo, vs, hj, rfl, hC, hx, hsb2, hzb2, hO2, hbr2⟩ := hrel
          rename World => wx
          clear hC11 hx11 hsb11 hzb11 hO11 hb011 HX11 hX HX
          have HC := hid hC
          have HXB := hid hx
          have HSB2 := hid hsb2
          have HZB2 := hid hzb2
          have HO2 := hid hO2
          have hrl := rowsTo_len (wide := wide) (en := en) HDP.out j (by rw [HPL.out]; exact hj)
          have hrh := rowsTo_hash (wide := wide) (en := en) HDP.out j (by rw [HPL.out]; exact hj)
          clear hC hx hsb2 hzb2 hO2
          by_cases hlt : j < p
          · have hjr : j < path.length := by rw [HPL.out]; exact hlt
            have hsucc := rowsTo_succ (wide := wide) (en := en) HDP.out hjr
            obtain ⟨k, hk⟩ : ∃ k : Nat, k = P.length - 1 - j := ⟨_, rfl⟩
            have hkl : k < P.length := by omega
            have hdk : D[D.length - 1 - j]'(by rw [HDP.out]; omega) = P[k] := by
              have e := HDD.out
              subst e
              simp only [hk]
            rw [hdk] at hsucc
            clear hdk
            have hhl := H32.out _ (List.getElem_mem hjr)
            obtain ⟨b, off, rfl, _, _⟩ := HRP.out.at_ (k := j) (by rw [List.length_map, hs_len H32.out, HPL.out]; omega)
            obtain ⟨hbB, hpw⟩ := rd_hash HRP.out H32.out j hjr
            have hpc := fun i v hv => (hbr2.cell (p := ⟨b, off + j * 32 + i, none⟩) hbB).trans (hpw i v hv)
            clear hpw
            obtain ⟨gD, capD, heD, _, hgD, _, _⟩ := own_block HO2.out (by omega)
            injection heD with heD _ heD2
            subst heD heD2
            have hcD : wx.cell? ⟨gD, k, none⟩ = some (.bool P[k]) := by
              obtain ⟨b', off', he, _, hc'⟩ := (own_rd HO2.out).at_ (k := k) (by rw [List.length_map]; exact hkl)
              injection he with he
              injection he with e1 e2
              subst e1 e2
              have := hc' k (bvl P[k]) (by rw [List.getElem?_map, List.getElem?_eq_getElem hkl]; rfl)
              rw [Nat.zero_add] at this
              exact this
            generalize path[j] = h at *
            generalize P[k] = d at *
            obtain ⟨q1, hq1⟩ : ∃ q : Nat, q = P.length - 1 := ⟨_, rfl⟩
            have e1 : (P.length : Int) - 1 = (q1 : Int) := by omega
            have e2 : (q1 : Int) - (j : Int) = (k : Int) := by omega
            have h1s := congrArg Prod.fst hsucc
            have h2s := congrArg Prod.snd hsucc
            obtain ⟨Rs, hRs⟩ : ∃ Rs, Rs = (rowsTo wide D en path j).1 := ⟨_, rfl⟩
            obtain ⟨Y, hY⟩ : ∃ Y, Y = (rowsTo wide D en path j).2 := ⟨_, rfl⟩
            change _ = (rowsTo wide D en path j).1 ++ [rowOf d (rowsTo wide D en path j).2 h] at h1s
            change _ = narL wide (rowOf d (rowsTo wide D en path j).2 h) at h2s
            rw [← hRs, ← hY] at h1s
            rw [← hY] at h2s
            rw [← hRs] at hrl HC
            rw [← hY] at hrh HXB
            have HS1 := hid h1s
            have HS2 := hid h2s
            have HPC := hid hpc
            have HB2 := hid hbr2
            have hah := aggHL hhl
            have hblw : b < wx.heap.size := Nat.lt_of_lt_of_le hbB hbr2.size
            have hpj : j < P.length := by omega
            clear hsucc hq1 hk hpc hbr2 hRs hY hpp hlen2 h1s h2s
            cases d with
            | true =>
              go_wp2_with (first
                | ((with_reducible refine wpAtC ?_); refine wpList_load_agg rfl _ _ rfl _ _ rfl (h.map cb) hah HPC.out ?_; simp only [Act.put, List.setIfInBounds_toArray, List.set_cons_succ, List.set_cons_zero])
                | ((with_reducible refine wpAtC ?_); refine wpList_alloc (w := wx) rfl _ rfl zeroH ?_; intro g21 w12 hg21 hg21' hz12 hb12; simp only [Act.put, List.setIfInBounds_toArray, List.set_cons_succ, List.set_cons_zero])
                | ((with_reducible refine wpAtC ?_); refine wpList_store_agg rfl _ _ _ rfl _ _ rfl (h.map cb).toArray rfl (aggHS hhl) hz12 (szH hhl) (one_cbA _) ?_; intro w13 hp13; simp only [Act.put]; rw [splH hhl] at hp13; have hcD13 := (hb12.trans (hp13.below hg21)).cell (p := ⟨gD, k, none⟩) hgD; rw [hcD] at hcD13; have hx13 := HXB.out.below (hb12.trans (hp13.below hg21)) HXB.out.lt; have hh13 := hp13.blk)
                | ((with_reducible refine wpAtC ?_); refine wpList_load_agg rfl _ _ rfl _ _ rfl (Y.map cb) (aggHL hrh) (blk_cells hx13) ?_; simp only [Act.put, List.setIfInBounds_toArray, List.set_cons_succ, List.set_cons_zero])
                | ((with_reducible refine wpAtC ?_); refine wpList_load_agg rfl _ _ rfl _ _ rfl (h.map cb) hah (blk_cells hh13) ?_; simp only [Act.put, List.setIfInBounds_toArray, List.set_cons_succ, List.set_cons_zero]))
              have hb13 := hb12.trans (hp13.below hg21)
              refine (both_any w13 hrh hhl).mono ?_
              rintro e w14 ⟨v14, rfl, hv14, hb14⟩
              have hb014 : Below wx.heap.size wx w14 := bx_trans hb13 hb14
              have hbw14 := bx_trans HB2.out hb014
              have hC14 := HC.out.below hb014
              have hs14 := HSB2.out.below hb014 HSB2.out.lt
              have hz14 := HZB2.out.below hb014 HZB2.out.lt
              have hx14 := HXB.out.below hb014 HXB.out.lt
              have hO14 := own_keep HO2.out hb014
              have hV14 : OwnB w14 w.heap.size v14 (rowOf true Y h) := OwnB.more hv14 (bx_trans HB2.out hb13).size
              have HR1 := hid (rows1_any w14 HL.out hbw14 (Nat.le_refl _) hbw14.size wide hC14 hs14 hV14 (by show (1 :: (Y ++ h) : List UInt8).length ≤ _; simp; omega) (by omega))
              clear hcD13 hh13 hx13 hz12 hp13
              go_wp2_with fail
              refine HR1.out.mono ?_
              rintro e w15 ⟨rfl, vo15, hgo⟩
              have hXl := narL_len wide (rowOf true Y h)
              have HS2X : Hid ((rowsTo wide D en path (j + 1)).2 = narL wide (rowOf true Y h)) := HS2
              obtain ⟨X2, hX2⟩ : ∃ X2, X2 = narL wide (rowOf true Y h) := ⟨_, rfl⟩
              rw [← hX2] at hXl HS2X ⊢
              have HGO := hid hgo
              have HX15 := hid (hgo.blk hC14 hx14 (by decide) (by decide))
              have HS15 := hid (hgo.blk hC14 hs14 (by decide) (by decide))
              have HZ15 := hid (hgo.blk hC14 hz14 (by decide) (by decide))
              have HO15 := hid (hgo.own hC14 hO14 (by decide) (by decide))
              have HB15 := hid (hbw14.trans hgo.below)
              have HSZ : Hid (0 + (X2.map cb).toArray.size ≤ (Y.map cb).toArray.size) := hid (by simp [hXl, hrh])
              have HSP : Hid (spl (Y.map cb).toArray 0 (X2.map cb).toArray.toList = (X2.map cb).toArray) := hid (spl_whole (by simp [hXl, hrh]))
              clear hX2 hgo hC14 hs14 hz14 hx14 hO14 hV14 HR1 hv14
              go_wp2_with ((with_reducible refine wpAtC ?_); refine wpList_store_agg rfl _ _ _ rfl _ _ rfl (X2.map cb).toArray rfl (aggHS hXl) HX15.out HSZ.out (one_cbA _) ?_; intro w16 hp16; simp only [Act.put]; rw [HSP.out] at hp16)
              have hC16 := HGO.out.rc.put HX15.out hp16 (by decide) (by decide) (by decide)
              have hO16 := ownOther HO15.out hp16 (own_ne HO15.out HX15.out (fun cur hx => by injection hx with _ hx; exact absurd hx (by decide)))
              have hgs16 := hp16.other HS15.out (by omega)
              have hz16 := hp16.other HZ15.out (by omega)
              have hb16 := bx_put HB15.out hp16 (by omega)
              have HP16 := hid hp16.blk
              clear hp16
              go_roundw
              case rel => exact ⟨j + 1, vo15, _, by omega, rfl, by rw [HS1.out]; exact hC16, by rw [HS2X.out]; exact HP16.out, hgs16, hz16, hO16, hb16⟩
              case measure => simp [intOf]; omega
            | false =>
              go_wp2_with (first
                | ((with_reducible refine wpAtC ?_); refine wpList_load_agg rfl _ _ rfl _ _ rfl (h.map cb) hah HPC.out ?_; simp only [Act.put, List.setIfInBounds_toArray, List.set_cons_succ, List.set_cons_zero])
                | ((with_reducible refine wpAtC ?_); refine wpList_alloc (w := wx) rfl _ rfl zeroH ?_; intro g21 w12 hg21 hg21' hz12 hb12; simp only [Act.put, List.setIfInBounds_toArray, List.set_cons_succ, List.set_cons_zero])
                | ((with_reducible refine wpAtC ?_); refine wpList_store_agg rfl _ _ _ rfl _ _ rfl (h.map cb).toArray rfl (aggHS hhl) hz12 (szH hhl) (one_cbA _) ?_; intro w13 hp13; simp only [Act.put]; rw [splH hhl] at hp13; have hcD13 := (hb12.trans (hp13.below hg21)).cell (p := ⟨gD, k, none⟩) hgD; rw [hcD] at hcD13; have hx13 := HXB.out.below (hb12.trans (hp13.below hg21)) HXB.out.lt; have hh13 := hp13.blk)
                | ((with_reducible refine wpAtC ?_); refine wpList_load_agg rfl _ _ rfl _ _ rfl (Y.map cb) (aggHL hrh) (blk_cells hx13) ?_; simp only [Act.put, List.setIfInBounds_toArray, List.set_cons_succ, List.set_cons_zero])
                | ((with_reducible refine wpAtC ?_); refine wpList_load_agg rfl _ _ rfl _ _ rfl (h.map cb) hah (blk_cells hh13) ?_; simp only [Act.put, List.setIfInBounds_toArray, List.set_cons_succ, List.set_cons_zero]))
              have hb13 := hb12.trans (hp13.below hg21)
              refine (both_any w13 hhl hrh).mono ?_
              rintro e w14 ⟨v14, rfl, hv14, hb14⟩
              have hb014 : Below wx.heap.size wx w14 := bx_trans hb13 hb14
              have hbw14 := bx_trans HB2.out hb014
              have hC14 := HC.out.below hb014
              have hs14 := HSB2.out.below hb014 HSB2.out.lt
              have hz14 := HZB2.out.below hb014 HZB2.out.lt
              have hx14 := HXB.out.below hb014 HXB.out.lt
              have hO14 := own_keep HO2.out hb014
              have hV14 : OwnB w14 w.heap.size v14 (rowOf false Y h) := OwnB.more hv14 (bx_trans HB2.out hb13).size
              have HR1 := hid (rows1_any w14 HL.out hbw14 (Nat.le_refl _) hbw14.size wide hC14 hs14 hV14 (by show (1 :: (h ++ Y) : List UInt8).length ≤ _; simp; omega) (by omega))
              clear hcD13 hh13 hx13 hz12 hp13
              go_wp2_with fail
              refine HR1.out.mono ?_
              rintro e w15 ⟨rfl, vo15, hgo⟩
              have hXl := narL_len wide (rowOf false Y h)
              have HS2X : Hid ((rowsTo wide D en path (j + 1)).2 = narL wide (rowOf false Y h)) := HS2
              obtain ⟨X2, hX2⟩ : ∃ X2, X2 = narL wide (rowOf false Y h) := ⟨_, rfl⟩
              rw [← hX2] at hXl HS2X ⊢
              have HGO := hid hgo
              have HX15 := hid (hgo.blk hC14 hx14 (by decide) (by decide))
              have HS15 := hid (hgo.blk hC14 hs14 (by decide) (by decide))
              have HZ15 := hid (hgo.blk hC14 hz14 (by decide) (by decide))
              have HO15 := hid (hgo.own hC14 hO14 (by decide) (by decide))
              have HB15 := hid (hbw14.trans hgo.below)
              have HSZ : Hid (0 + (X2.map cb).toArray.size ≤ (Y.map cb).toArray.size) := hid (by simp [hXl, hrh])
              have HSP : Hid (spl (Y.map cb).toArray 0 (X2.map cb).toArray.toList = (X2.map cb).toArray) := hid (spl_whole (by simp [hXl, hrh]))
              clear hX2 hgo hC14 hs14 hz14 hx14 hO14 hV14 HR1 hv14
              go_wp2_with ((with_reducible refine wpAtC ?_); refine wpList_store_agg rfl _ _ _ rfl _ _ rfl (X2.map cb).toArray rfl (aggHS hXl) HX15.out HSZ.out (one_cbA _) ?_; intro w16 hp16; simp only [Act.put]; rw [HSP.out] at hp16)
              have hC16 := HGO.out.rc.put HX15.out hp16 (by decide) (by decide) (by decide)
              have hO16 := ownOther HO15.out hp16 (own_ne HO15.out HX15.out (fun cur hx => by injection hx with _ hx; exact absurd hx (by decide)))
              have hgs16 := hp16.other HS15.out (by omega)
              have hz16 := hp16.other HZ15.out (by omega)
              have hb16 := bx_put HB15.out hp16 (by omega)
              have HP16 := hid hp16.blk
              clear hp16
              go_roundw
              case rel => exact ⟨j + 1, vo15, _, by omega, rfl, by rw [HS1.out]; exact hC16, by rw [HS2X.out]; exact HP16.out, hgs16, hz16, hO16, hb16⟩
              case measure => simp [intOf]; omega
          · have hall : rowsTo wide D en path j = rowsL wide D en path := by rw [← rowsTo_all HDP.out, HPL.out, show j = p from by omega]
            rw [hall] at hrl hrh HC HXB
            obtain ⟨Rs, hRs⟩ : ∃ Rs, Rs = (rowsL wide D en path).1 := ⟨_, rfl⟩
            obtain ⟨Y, hY⟩ : ∃ Y, Y = (rowsL wide D en path).2 := ⟨_, rfl⟩
            rw [← hRs] at hrl HC
            rw [← hY] at hrh HXB
            have HRs := hid hRs
            have HY := hid hY
            have HB2 := hid hbr2
            have hjp : (p : Int) ≤ (j : Int) := by omega
            have hjp2 : ¬ (j : Int) < (p : Int) := by omega
            obtain ⟨Ao, co, rfl, _, _, _⟩ := own_form HC.out.own
            have cgl : wx.cell? ⟨gl, 0, none⟩ = some (.slice Ao Rs.length co) := HC.out.bl.cell 0
            have hglx := HC.out.bl.lt
            clear hall hRs hY hbr2 hpp hlen2
            go_wp2_with fail
            refine wp_flow (by kernel_rfl) [0, 0, 1, 7, 15] 3 [false, false, false, false, false, false, false, false, false, false, true, false, false, false, false, false, false, false, false, false, false, false, false, false, false, false, false, false, false, false, false, false, false, false, false, false, false, false, false, false, false, false, false, false, false, false, false, false, false, false, false, false, false, false, false, false, false, false, false, false, false, false, false, false, false, false, false, false, false, false, false, false, false, false, false, false, false, false, false, false, false, false, false, false, false, false, false, true, true] (by kernel_rfl) (by decide) (by kernel_rfl) [FP.eq (.slice Ao Rs.length co), FP.eq (.agg (Y.map cb).toArray), FP.eq (.slice Ao Rs.length co)] ?_ ?_
            · refine allFrom_cons ?_ ?_
              · intro a_ w_ hk_
                have h17 : a_.eval (.tmp 17) = .pointer (some ⟨gl, 0, none⟩) := hk_.old 17 (by kernel_rfl)
                have hx_ := hk_.ext
                clear hk_
                refine flow_plain rfl ?_
                unfold gives
                have hc_ : ∀ v, a_.eval (.const v) = v := fun _ => rfl
                have hn_ : ∀ f, a_.eval (.func f) = .func (.func f) #[] #[] := fun _ => rfl
                have hcell := (hx_.cell (p := ⟨gl, 0, none⟩) hglx).trans cgl
                generalize a_.eval = ρ_ at *
                go_simp
                exact ⟨Below.refl _ _, rfl⟩
              refine allFrom_cons ?_ ?_
              · intro a_ w_ hk_
                have h19 : a_.eval (.tmp 19) = .pointer (some ⟨g19, 0, none⟩) := hk_.old 19 (by kernel_rfl)
                have hx_ := hk_.ext
                clear hk_
                refine flow_plain rfl ?_
                exact gives_ldC rfl h19 (aggHL hrh) (blk_cells (HXB.out.below hx_ HXB.out.lt)) ⟨Below.refl _ _, rfl⟩
              refine allFrom_cons ?_ ?_
              · intro a_ w_ hk_
                have h87 : a_.eval (.tmp 87) = (.slice Ao Rs.length co) := hk_.got 0 87 _ (by kernel_rfl) rfl rfl
                have hx_ := hk_.ext
                clear hk_
                refine flow_plain rfl ?_
                exact gives_assign rfl ⟨Below.refl _ _, h87⟩
              exact allFrom_nil
            intro f_ w_ hx_ hf_
            have h87 : f_ 87 = (.slice Ao Rs.length co) := hf_ 0 87 _ (by decide) rfl rfl
            have h88 : f_ 88 = (.agg (Y.map cb).toArray) := hf_ 1 88 _ (by decide) rfl rfl
            have h10 : f_ 10 = (.slice Ao Rs.length co) := hf_ 2 10 _ (by decide) rfl rfl
            simp only [mix, List.drop_succ_cons, List.drop_zero, h87, h88, h10]
            clear h87 h88 h10
            clear hf_
            have hzz := HZB2.out.below hx_ HZB2.out.lt
            have hCz := HC.out.below hx_
            have HBz := hid (bx_trans HB2.out hx_)
            clear hx_
            go_wp2_with ((with_reducible refine wpAtC ?_); refine wpList_store_agg rfl _ _ _ rfl _ _ rfl (Y.map cb).toArray rfl (aggHS hrh) hzz (szH hrh) (one_cbA _) ?_; intro w16 hp16; simp only [Act.put]; rw [splH hrh] at hp16)
            have hC16 := hCz.put hzz hp16 (by decide) (by decide) (by decide)
            refine bodyPost_ret (results_3 rfl rfl (aggHL hrh) (blk_cells hp16.blk)) rfl ⟨bx_put HBz.out hp16 hw4, ?_⟩
            rw [if_pos HDP.out, ← HRs.out, ← HY.out]
            exact ⟨_, vs, rfl, hC16.own, hC16.rd⟩
      · have hlen2 : ((P.length : Int) == (p : Int)) = false := by simp; omega
        have HLEN := hid hlen
        clear hlen
        have hzl := zeroL_len
        have HZ := hid zeroL_cb
        obtain ⟨Z, hZ⟩ : ∃ Z, Z = zeroL := ⟨_, rfl⟩
        rw [← hZ] at HZ hzl
        have HZZ := hid hZ
        clear hZ
        go_wp2_with (first
          | ((with_reducible refine wpAtC ?_); refine wpList_gives rfl (gives_blt0 (S := fun v w' => v = .agg (List.replicate 32 (cb 0)).toArray ∧ w' = _) rfl ⟨rfl, rfl⟩) ?_; rintro v12 w12 ⟨rfl, rfl⟩; rw [HZ.out]; simp only [Act.put, List.setIfInBounds_toArray, List.set_cons_succ, List.set_cons_zero])
          | ((with_reducible refine wpAtC ?_); refine wpList_store_agg rfl _ _ _ rfl _ _ rfl (Z.map cb).toArray rfl (aggHS hzl) HZB.out (szH hzl) (one_cbA _) ?_; intro w13 hp13; simp only [Act.put]; rw [splH hzl] at hp13))
        exact bodyPost_ret (results_3 rfl rfl (aggHL hzl) (blk_cells hp13.blk)) rfl ⟨bx_put HB.out hp13 hw4, by rw [if_neg (by rw [hdl, HPL.out]; exact HLEN.out), ← HZZ.out]; rfl⟩
end Go.Proofs.YtgaefejblmnklaaDoor
