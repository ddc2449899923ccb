
/- Chains: the statements' common example. -/
import Derived.Test.YtjkolpioglpigaaDoorChL
import Derived.Test.YtjkolpioglpigaaDoorChG
namespace Go.Proofs.YtjkolpioglpigaaDoor
open Go.RowKit
set_option linter.unusedVariables false
theorem builtKy (m : Nat) {h : List UInt8} (hl : h.length = 32) : Tryd.prog.built tKy [(0, .int .u64 (m : Int)), (1, .agg (h.map cb).toArray)] = some (kcell m h).toArray := by
  have hz : (Tryd.prog.info? tKy).map (·.zero) = some (some (.agg (kcell 0 (List.replicate 32 0)).toArray)) := by kernel_rfl
  have := built_struct (P := Tryd.prog) (t := tKy) (vs := [.int .u64 (m : Int), .agg (h.map cb).toArray]) (sizes := [1, 32]) Tryd.underlying39 hz (by kernel_rfl) (by
    show [1, (h.map cb).toArray.size] = [1, 32]
    rw [List.size_toArray, List.length_map, hl]) (by
    show (flat [.int .u64 (m : Int), .agg (h.map cb).toArray]).length = (kcell 0 (List.replicate 32 0)).toArray.size
    simp [flat, Value.cells, kcell, hl])
  have e : flat [.int .u64 (m : Int), .agg (h.map cb).toArray] = kcell m h := by simp [flat, Value.cells, kcell]
  rw [e] at this
  exact this
theorem zeroKy : ZeroT Tryd.prog tKy (.agg (kcell 0 (List.replicate 32 0)).toArray) := zeroT_of (by kernel_rfl)
theorem kcell_len (m : Nat) {h : List UInt8} (hl : h.length = 32) : (kcell m h).length = 33 := by unfold kcell; rw [List.length_cons, List.length_map, hl]
theorem aggKy (m : Nat) {h : List UInt8} (hl : h.length = 32) : AggT Tryd.prog tKy (kcell m h).length := by
  rw [kcell_len m hl]
  exact aggT_of Tryd.underlying39 rfl (by kernel_rfl)
theorem aggKyS (m : Nat) {h : List UInt8} (hl : h.length = 32) : AggT Tryd.prog tKy (kcell m h).toArray.size := by rw [List.size_toArray]; exact aggKy m hl
theorem oneKy (m : Nat) (h : List UInt8) : ∀ v ∈ (kcell m h).toArray.toList, v.oneCell' = true := by
  intro v hv
  have hv : v ∈ kcell m h := by simpa using hv
  unfold kcell at hv
  rcases List.mem_cons.1 hv with rfl | hv
  · rfl
  · exact one_cb h v hv
theorem szKy (m m' : Nat) {h h' : List UInt8} (hl : h.length = 32) (hl' : h'.length = 32) : 0 + (kcell m h).toArray.size ≤ (Value.agg (kcell m' h').toArray).cells.size := by
  show 0 + (kcell m h).toArray.size ≤ (kcell m' h').toArray.size
  rw [List.size_toArray, List.size_toArray, kcell_len m hl, kcell_len m' hl']
  exact Nat.le_refl _
theorem splKy (m m' : Nat) {h h' : List UInt8} (hl : h.length = 32) (hl' : h'.length = 32) : spl (Value.agg (kcell m' h').toArray).cells 0 (kcell m h).toArray.toList = (kcell m h).toArray := spl_whole (by
  show (kcell m' h').toArray.size = (kcell m h).toArray.size
  rw [List.size_toArray, List.size_toArray, kcell_len m hl, kcell_len m' hl'])
theorem gives_buildKy {o : Oper} {a : Act} {w : World} {S : Value → World → Prop} {x y : Operand} (ho : o.op = .build tKy #[(0, x), (1, y)]) {m : Nat} {h : List UInt8} (hx : a.eval x = .int .u64 (m : Int)) (hy : a.eval y = .agg (h.map cb).toArray) (hl : h.length = 32) (hs : S (.agg (kcell m h).toArray) w) : gives Tryd.prog o a w S :=
  gives_build tKy _ ho [.int .u64 (m : Int), .agg (h.map cb).toArray] (by simp [hx, hy]) (builtKy m hl) hs
theorem flat_take : ∀ (P : List (List UInt8)), (∀ x ∈ P, x.length = 32) → ∀ k, (P.take k).flatten = P.flatten.take (k * 32)
  | [], _, k => by simp
  | x :: r, h, 0 => by simp
  | x :: r, h, k + 1 => by
    have hx := h x List.mem_cons_self
    rw [List.take_succ_cons, List.flatten_cons, List.flatten_cons, List.take_append, List.take_of_length_le (l := x) (by omega), flat_take r (fun y hy => h y (List.mem_cons_of_mem _ hy)) k, hx]
    congr 2
    omega
theorem flat_drop : ∀ (P : List (List UInt8)), (∀ x ∈ P, x.length = 32) → ∀ k, (P.drop k).flatten = P.flatten.drop (k * 32)
  | [], _, k => by simp
  | x :: r, h, 0 => by simp
  | x :: r, h, k + 1 => by
    have hx := h x List.mem_cons_self
    have hd : x.drop ((k + 1) * 32) = [] := List.drop_eq_nil_of_le (by omega)
    rw [List.drop_succ_cons, List.flatten_cons, List.drop_append, hd, List.nil_append, flat_drop r (fun y hy => h y (List.mem_cons_of_mem _ hy)) k, hx]
    congr 1
    omega
theorem rd_takeH {w : World} {B : Nat} {A : Option Addr} {P : List (List UInt8)} (h : Rd w B A (P.flatten.map cb)) (hz : ∀ x ∈ P, x.length = 32) (k : Nat) : Rd w B A ((P.take k).flatten.map cb) := by
  rw [flat_take P hz, List.map_take]
  exact h.take _
theorem rd_dropH {w : World} {B b off : Nat} {P : List (List UInt8)} (h : Rd w B (some ⟨b, off, none⟩) (P.flatten.map cb)) (hz : ∀ x ∈ P, x.length = 32) (k : Nat) : Rd w B (some ⟨b, off + k * 32, none⟩) ((P.drop k).flatten.map cb) := by
  rw [flat_drop P hz, List.map_drop]
  rcases h with h | ⟨b', off', he, hb, hd⟩
  · left
    rw [h, List.drop_nil]
  · injection he with he
    injection he with h1 h2
    subst h1 h2
    refine .inr ⟨b, off + k * 32, rfl, hb, fun j v hv => ?_⟩
    rw [Nat.add_assoc]
    rw [List.getElem?_drop] at hv
    exact hd _ v hv
theorem sp7 : splitN 7 = 4 := split_eq (K := 2) (by decide) (by decide)
theorem sp4 : splitN 4 = 2 := split_eq (K := 1) (by decide) (by decide)
theorem sp2 : splitN 2 = 1 := split_eq (K := 0) (by decide) (by decide)
theorem steps37 : steps 3 7 = [true, false, true] := by
  rw [steps_true (by decide) (by decide) (by rw [sp7]; decide), sp7, steps_false (by decide) (by decide) (by rw [sp4]; decide), sp4, steps_true (by decide) (by decide) (by rw [sp2]; decide), sp2, steps_no (by decide)]
theorem steps47 : steps 4 7 = [true] := by
  rw [steps_true (by decide) (by decide) (by rw [sp7]; decide), sp7, steps_no (by decide)]
theorem long37 : longN 3 7 = 4 := by rw [longN_eq (by decide) (by decide), wholeN, steps37]; rfl
theorem long47 : longN 4 7 = 1 := by rw [longN_eq (by decide) (by decide), wholeN, steps47]; rfl
theorem long77 : longN 7 7 = 0 := by rw [longN_eq (by decide) (by decide), wholeN, steps_no (by decide)]; rfl
/-- A proof verifies. -/
theorem verL_prf {ls : List (List UInt8)} {m : Nat} (h1 : 1 ≤ m) (h2 : m ≤ ls.length) : verL m ls.length (treeR (ls.take m)) (treeR ls) (prf ls m true) = 0 := by
  unfold verL
  rw [if_neg (by omega), if_pos ⟨prf_long h1 h2, made_prf h1 h2⟩]
theorem verL_short {m n : Nat} {old now : List UInt8} {path : List (List UInt8)} (h1 : 1 ≤ m) (h2 : m ≤ n) (hl : path.length ≠ longN m n) : verL m n old now path = 20 := by
  unfold verL
  rw [if_neg (by omega), if_neg (fun hh => hl hh.1)]
theorem verL_out {m n : Nat} {old now : List UInt8} {path : List (List UInt8)} (h : m < 1 ∨ n < m) : verL m n old now path = 15 := by
  unfold verL
  rw [if_pos h]
/-- The example's seven entries. -/
def sevenL : List (List UInt8) := [[97], [98], [99], [100], [101], [102], [103]]
def W7 (w : World) : World := (((((((w.alloc (.cells #[.int .u8 97] 5 (1, 2))).alloc (.cells #[.int .u8 98] 5 (1, 2))).alloc (.cells #[.int .u8 99] 5 (1, 2))).alloc (.cells #[.int .u8 100] 5 (1, 2))).alloc (.cells #[.int .u8 101] 5 (1, 2))).alloc (.cells #[.int .u8 102] 5 (1, 2))).alloc (.cells #[.int .u8 103] 5 (1, 2))).alloc (.cells #[.slice (some ⟨w.heap.size, 0, none⟩) 1 1, .slice (some ⟨w.heap.size + 1, 0, none⟩) 1 1, .slice (some ⟨w.heap.size + 1 + 1, 0, none⟩) 1 1, .slice (some ⟨w.heap.size + 1 + 1 + 1, 0, none⟩) 1 1, .slice (some ⟨w.heap.size + 1 + 1 + 1 + 1, 0, none⟩) 1 1, .slice (some ⟨w.heap.size + 1 + 1 + 1 + 1 + 1, 0, none⟩) 1 1, .slice (some ⟨w.heap.size + 1 + 1 + 1 + 1 + 1 + 1, 0, none⟩) 1 1] 50)
theorem seven_laid (w : World) : Below w.heap.size w (W7 w) ∧ RdBB (W7 w) (W7 w).heap.size (some ⟨w.heap.size + 1 + 1 + 1 + 1 + 1 + 1 + 1, 0, none⟩) sevenL := by
  refine ⟨bx_alloc (bx_alloc (bx_alloc (bx_alloc (bx_alloc (bx_alloc (bx_alloc (bx_alloc (Below.refl _ _) _) _) _) _) _) _) _) _, ?_⟩
  refine rdBB_of_row (heap_new (by simp)) (by rfl) ?_
  intro i v l hv hl
  rcases i with _ | _ | _ | _ | _ | _ | _ | i
  case succ.succ.succ.succ.succ.succ.succ => simp [sevenL] at hl
  all_goals
    simp [sevenL] at hv hl
    subst hv hl
    refine rdB_of_row (t := 5) (fr := (1, 2)) ?_ rfl rfl (Nat.le_refl _)
    unfold W7
    repeat (first | exact heap_new (by simp) | refine heap_old ?_)
theorem seven_len : ∀ l ∈ sevenL, l.length ≤ 800000000 := by
  intro l hl
  simp [sevenL] at hl
  rcases hl with rfl | rfl | rfl | rfl | rfl | rfl | rfl <;> simp
set_option maxRecDepth 100000 in
set_option maxHeartbeats 2000000 in
theorem chAwake (w : World) (hL : LaidC w) : Calls Tryd.prog 10 #[] w fun e w' => e = .returned (.bool true) ∧ Below w.heap.size w w' := by
  have HL := hid hL
  clear hL
  have kc := conv_const Tryd.underlying50 Tryd.underlying5
  obtain ⟨hb1, hr1⟩ := seven_laid w
  have HP := hid (verL_prf (ls := sevenL) (m := 3) (by decide) (by decide))
  have hpl := prf_long (ls := sevenL) (m := 3) (by decide) (by decide)
  rw [show sevenL.length = 7 from rfl, long37] at hpl
  rw [show sevenL.length = 7 from rfl] at HP
  have HPK := hid (prf_ok 7 sevenL 3 true rfl)
  have HLEN := hid seven_len
  have HH3 := hid (treeR_len (sevenL.take 3))
  have HH7 := hid (treeR_len sevenL)
  have HPL := hid hpl
  have HS7 := hid (show sevenL.length = 7 from rfl)
  have HS3 := hid (show (sevenL.take 3).length = 3 from rfl)
  have HLT := hid (show ∀ l ∈ sevenL.take 3, l.length ≤ 800000000 from fun l hl => seven_len l (List.mem_of_mem_take hl))
  clear hpl
  go_enter Tryd.func10, Tryd.ntmps10
  generalize hC5 : Code.region 5 _ _ = C5
  have HC5 := hid hC5
  have HR1 := hid hr1
  have HB1 := hid hb1
  clear hC5 hr1 hb1
  go_wp2_with fail
  rw [show (((((((w.alloc (.cells #[.int .u8 97] 5 (1, 2))).alloc (.cells #[.int .u8 98] 5 (1, 2))).alloc (.cells #[.int .u8 99] 5 (1, 2))).alloc (.cells #[.int .u8 100] 5 (1, 2))).alloc (.cells #[.int .u8 101] 5 (1, 2))).alloc (.cells #[.int .u8 102] 5 (1, 2))).alloc (.cells #[.int .u8 103] 5 (1, 2))).alloc (.cells #[.slice (some ⟨w.heap.size, 0, none⟩) 1 1, .slice (some ⟨w.heap.size + 1, 0, none⟩) 1 1, .slice (some ⟨w.heap.size + 1 + 1, 0, none⟩) 1 1, .slice (some ⟨w.heap.size + 1 + 1 + 1, 0, none⟩) 1 1, .slice (some ⟨w.heap.size + 1 + 1 + 1 + 1, 0, none⟩) 1 1, .slice (some ⟨w.heap.size + 1 + 1 + 1 + 1 + 1, 0, none⟩) 1 1, .slice (some ⟨w.heap.size + 1 + 1 + 1 + 1 + 1 + 1, 0, none⟩) 1 1] 50) = W7 w from rfl]
  generalize w.heap.size + 1 + 1 + 1 + 1 + 1 + 1 + 1 = gl at *
  generalize W7 w = w1 at *
  generalize sevenL = ls at *
  have HRT := hid (HR1.out.takeL 3)
  refine (Proof_any w1 (HL.out.sha.below HB1.out) ls 7 (some ⟨gl, 0, none⟩) 7 3 HS7.out (by decide) (by decide) HR1.out (Nat.le_refl _) (by omega) HLEN.out (by omega)).mono ?_
  rintro e w2 ⟨v, rfl, hown, hb2⟩
  rw [HPL.out] at hown
  obtain ⟨Ap, cp, rfl, hcp, hcm, _⟩ := own_form hown
  unfold maxLen at hcm
  have HO := hid hown
  have HB2 := hid (bx_trans HB1.out hb2)
  have HR2 := hid (HRT.out.below hb2)
  have HR27 := hid (HR1.out.below hb2)
  have hs12 := hb2.size
  clear hown hb2
  go_wp2_with fail
  refine (Root_any 3 w2 (ls.take 3) 3 (some ⟨gl, 0, none⟩) 7 w1.heap.size HS3.out (Nat.le_refl _) (HL.out.sha.below HB2.out) HR2.out hs12 (by omega) (by omega) HLT.out).mono ?_
  rintro e w3 ⟨rfl, hb3⟩
  generalize treeR (ls.take 3) = r3 at *
  have HB3 := hid (bx_trans HB2.out hb3)
  have HO3 := hid (own_keep HO.out hb3)
  have HR37 := hid (HR27.out.below (hb3.mono hs12))
  have hs13 := Nat.le_trans hs12 hb3.size
  have h3 := HH3.out
  clear hb3 HR27 HO HR2 HB2
  go_wp2_with (first
    | ((with_reducible refine wpAtC ?_); refine wpList_gives rfl (gives_buildKy (m := 3) (S := fun v w' => v = .agg (kcell 3 r3).toArray ∧ w' = w3) rfl rfl rfl h3 ⟨rfl, rfl⟩) ?_; rintro v4 w4 ⟨rfl, rfl⟩; simp only [Act.put, List.setIfInBounds_toArray, List.set_cons_succ, List.set_cons_zero])
    | ((with_reducible refine wpAtC ?_); refine wpList_alloc rfl _ rfl zeroKy ?_; intro g4 w5 hg4 hg4' hz4 hb5; simp only [Act.put, List.setIfInBounds_toArray, List.set_cons_succ, List.set_cons_zero])
    | ((with_reducible refine wpAtC ?_); refine wpList_store_agg rfl _ _ _ rfl _ _ rfl (kcell 3 r3).toArray rfl (aggKyS 3 h3) hz4 (szKy 3 0 h3 (by decide)) (oneKy 3 r3) ?_; intro w6 hp6; simp only [Act.put]; rw [splKy 3 0 h3 (by decide)] at hp6; have hA6 := hp6.blk; have hb36 := hb5.trans (hp6.below hg4)))
  have HB6 := hid (bx_trans HB3.out hb36)
  have HO6 := hid (chPut (own_keep HO3.out hb5) hz4 hp6 (by decide))
  have HR67 := hid (HR37.out.below (hb36.mono hs13))
  have hs16 := Nat.le_trans hs13 hb36.size
  clear hb36 hb5 hz4 hp6 HO3 HB3 HR37
  refine (Root_any 7 w6 ls 7 (some ⟨gl, 0, none⟩) 7 w1.heap.size HS7.out (Nat.le_refl _) (HL.out.sha.below HB6.out) HR67.out hs16 (by omega) (by omega) HLEN.out).mono ?_
  rintro e w7 ⟨rfl, hb7⟩
  generalize treeR ls = r7 at *
  have HB7 := hid (bx_trans HB6.out hb7)
  have HO7 := hid (own_keep HO6.out hb7)
  have hA7 := hA6.below hb7 hA6.lt
  have h7 := HH7.out
  clear hb7 HO6 hA6 HB6 HR67
  go_wp2_with (first
    | ((with_reducible refine wpAtC ?_); refine wpList_gives rfl (gives_buildKy (m := 7) (S := fun v w' => v = .agg (kcell 7 r7).toArray ∧ w' = w7) rfl rfl rfl h7 ⟨rfl, rfl⟩) ?_; rintro v8 w8 ⟨rfl, rfl⟩; simp only [Act.put, List.setIfInBounds_toArray, List.set_cons_succ, List.set_cons_zero])
    | ((with_reducible refine wpAtC ?_); refine wpList_alloc rfl _ rfl zeroKy ?_; intro g5 w9 hg5 hg5' hz5 hb9; simp only [Act.put, List.setIfInBounds_toArray, List.set_cons_succ, List.set_cons_zero])
    | ((with_reducible refine wpAtC ?_); refine wpList_store_agg rfl _ _ _ rfl _ _ rfl (kcell 7 r7).toArray rfl (aggKyS 7 h7) hz5 (szKy 7 0 h7 (by decide)) (oneKy 7 r7) ?_; intro w10 hp10; simp only [Act.put]; rw [splKy 7 0 h7 (by decide)] at hp10; have hB10 := hp10.blk; have hA10 := hp10.other (hA7.below hb9 hA7.lt) (by have := hA7.lt; omega); have hb10 := hb9.trans (hp10.below hg5)))
  have HB10 := hid (bx_trans HB7.out hb10)
  have HO10 := hid (chPut (own_keep HO7.out hb9) hz5 hp10 (by decide))
  clear hb10 hb9 hz5 hp10 HO7 hA7 HB7
  have hpp : ls = ls := rfl
  obtain ⟨P, hP⟩ : ∃ P, P = prf ls 3 true := ⟨_, rfl⟩
  rw [← hP] at HPL HPK HP HO10
  clear hP hpp HRT HR1 HB1 HLEN HLT HS7 HS3 HH3 HH7
  have hcp3 : (3 : Int) ≤ (cp : Int) := by omega
  have hka3 := aggKy 3 h3
  have hka7 := aggKy 7 h7
  have HPT := hid (show ∀ x ∈ P.take 3, x.length = 32 from fun x hx => HPK.out x (List.mem_of_mem_take hx))
  have HPT3 := hid (show (P.take 3).length = 3 by rw [List.length_take, HPL.out]; rfl)
  have HP73 := hid (verL_out (m := 7) (n := 3) (old := r7) (now := r3) (path := P) (.inr (by decide)))
  have HPS := hid (verL_short (m := 3) (n := 7) (old := r3) (now := r7) (path := P.take 3) (by decide) (by decide) (by rw [HPT3.out, long37]; decide))
  have HRD := hid (own_rd HO10.out)
  have HRDT := hid (show Rd w10 w10.heap.size Ap ((P.take 3).flatten.map cb) by
    exact rd_takeH (own_rd HO10.out) HPK.out 3)
  obtain rfl := HC5.out
  clear HC5
  refine wp_flow (by kernel_rfl) [0, 1, 3, 7, 15, 31, 63, 127, 255, 511, 1023, 2047, 4095, 8191, 16383, 32767, 65535, 131071, 262143, 524287, 1048575, 1048575, 1048575, 8388607, 16777215, 33554431, 67108863, 134217727, 134217727, 134217727, 1073741823, 2147483647, 4294967295, 8589934591, 17179869183, 17179869183, 17179869183, 85899345919, 274877906943, 549755813887, 1099511627775, 2199023255551] 41 [false, false, false, false, false, false, false, false, false, false, false, false, false, false, false, false, false, false, false, false, false, false, false, false, false, false, false, false, false, false, false, false, false, true, true, true, true, true, true, true, true, true, true, true, true, true, true, true, true, true, true, true, true, true, true, true, true, true, true, true, true, true, true, true, true, true, true, true, true, true, true, true, true, true] (by kernel_rfl) (by decide) (by kernel_rfl) [FP.eq (.int .i64 4), FP.eq (.bool true), FP.eq (.bool true), FP.eq (.int .i64 1), FP.eq (.bool true), FP.eq (.bool true), FP.eq (.bool true), FP.eq (.int .i64 0), FP.eq (.bool true), FP.eq (.bool true), FP.eq (.bool true), FP.eq (.int .i64 0), FP.eq (.bool true), FP.eq (.bool true), FP.eq (.bool true), FP.eq (.slice Ap 4 cp), FP.eq (.int .i64 4), FP.eq (.bool true), FP.eq (.bool true), FP.eq (.bool true), FP.eq (.agg (kcell 3 r3).toArray), FP.eq (.agg (kcell 7 r7).toArray), FP.eq (.slice Ap 4 cp), FP.eq (.int .i64 0), FP.eq (.bool true), FP.eq (.bool true), FP.eq (.bool true), FP.eq (.agg (kcell 7 r7).toArray), FP.eq (.agg (kcell 3 r3).toArray), FP.eq (.slice Ap 4 cp), FP.eq (.int .i64 15), FP.eq (.bool true), FP.eq (.bool true), FP.eq (.bool true), FP.eq (.agg (kcell 3 r3).toArray), FP.eq (.agg (kcell 7 r7).toArray), FP.eq (.slice Ap 4 cp), FP.eq (.slice Ap 3 cp), FP.eq (.int .i64 20), FP.eq (.bool true), FP.eq (.bool true)] ?_ ?_
  · refine allFrom_cons ?_ ?_
    · intro a_ w_ hk_
      have hx_ := hk_.ext
      clear hk_
      refine flow_plain rfl ?_
      unfold gives
      have hc_ : ∀ v, a_.eval (.const v) = v := fun _ => rfl
      have hn_ : ∀ f, a_.eval (.func f) = .func (.func f) #[] #[] := fun _ => rfl
      generalize a_.eval = ρ_ at *
      go_simp
      exact (Long_any w_ 3 7 (by decide) (by decide)).mono fun e w' hh => ⟨_, hh.1, hh.2, by rw [long37]; rfl⟩
    refine allFrom_cons ?_ ?_
    · intro a_ w_ hk_
      have h33 : a_.eval (.tmp 33) = (.int .i64 4) := hk_.got 0 33 _ (by kernel_rfl) rfl rfl
      have hx_ := hk_.ext
      clear hk_
      refine flow_plain rfl ?_
      unfold gives
      have hc_ : ∀ v, a_.eval (.const v) = v := fun _ => rfl
      have hn_ : ∀ f, a_.eval (.func f) = .func (.func f) #[] #[] := fun _ => rfl
      generalize a_.eval = ρ_ at *
      go_simp
      exact ⟨Below.refl _ _, rfl⟩
    refine allFrom_cons ?_ ?_
    · intro a_ w_ hk_
      have h34 : a_.eval (.tmp 34) = (.bool true) := hk_.got 1 34 _ (by kernel_rfl) rfl rfl
      have hx_ := hk_.ext
      clear hk_
      refine flow_plain rfl ?_
      exact gives_move rfl ⟨Below.refl _ _, h34⟩
    refine allFrom_cons ?_ ?_
    · intro a_ w_ hk_
      have hg_ : a_.eval (.tmp 35) = .bool true := hk_.got 2 35 _ (by kernel_rfl) rfl rfl
      have hy_ := hk_.want 2 _ 35 true rfl rfl hg_
      have hx_ := hk_.ext
      clear hk_
      refine flow_want rfl hy_ ?_
      unfold gives
      have hc_ : ∀ v, a_.eval (.const v) = v := fun _ => rfl
      have hn_ : ∀ f, a_.eval (.func f) = .func (.func f) #[] #[] := fun _ => rfl
      clear hy_ hg_
      generalize a_.eval = ρ_ at *
      go_simp
      exact (Long_any w_ 4 7 (by decide) (by decide)).mono fun e w' hh => ⟨_, hh.1, hh.2, by rw [long47]; rfl⟩
    refine allFrom_cons ?_ ?_
    · intro a_ w_ hk_
      have h36 : a_.eval (.tmp 36) = (.int .i64 1) := hk_.got 3 36 _ (by kernel_rfl) rfl rfl
      have hg_ : a_.eval (.tmp 35) = .bool true := hk_.got 2 35 _ (by kernel_rfl) rfl rfl
      have hy_ := hk_.want 2 _ 35 true rfl rfl hg_
      have hx_ := hk_.ext
      clear hk_
      refine flow_want rfl hy_ ?_
      unfold gives
      have hc_ : ∀ v, a_.eval (.const v) = v := fun _ => rfl
      have hn_ : ∀ f, a_.eval (.func f) = .func (.func f) #[] #[] := fun _ => rfl
      clear hy_ hg_
      generalize a_.eval = ρ_ at *
      go_simp
      exact ⟨Below.refl _ _, rfl⟩
    refine allFrom_cons ?_ ?_
    · intro a_ w_ hk_
      have h35 : a_.eval (.tmp 35) = (.bool true) := hk_.got 2 35 _ (by kernel_rfl) rfl rfl
      have h37 : a_.eval (.tmp 37) = (.bool true) := hk_.got 4 37 _ (by kernel_rfl) rfl rfl
      have hx_ := hk_.ext
      clear hk_
      refine flow_plain rfl ?_
      exact gives_pick rfl h35 ⟨Below.refl _ _, h37⟩
    refine allFrom_cons ?_ ?_
    · intro a_ w_ hk_
      have h38 : a_.eval (.tmp 38) = (.bool true) := hk_.got 5 38 _ (by kernel_rfl) rfl rfl
      have hx_ := hk_.ext
      clear hk_
      refine flow_plain rfl ?_
      exact gives_move rfl ⟨Below.refl _ _, h38⟩
    refine allFrom_cons ?_ ?_
    · intro a_ w_ hk_
      have hg_ : a_.eval (.tmp 39) = .bool true := hk_.got 6 39 _ (by kernel_rfl) rfl rfl
      have hy_ := hk_.want 6 _ 39 true rfl rfl hg_
      have hx_ := hk_.ext
      clear hk_
      refine flow_want rfl hy_ ?_
      unfold gives
      have hc_ : ∀ v, a_.eval (.const v) = v := fun _ => rfl
      have hn_ : ∀ f, a_.eval (.func f) = .func (.func f) #[] #[] := fun _ => rfl
      clear hy_ hg_
      generalize a_.eval = ρ_ at *
      go_simp
      exact (Long_any w_ 7 7 (by decide) (by decide)).mono fun e w' hh => ⟨_, hh.1, hh.2, by rw [long77]; rfl⟩
    refine allFrom_cons ?_ ?_
    · intro a_ w_ hk_
      have h40 : a_.eval (.tmp 40) = (.int .i64 0) := hk_.got 7 40 _ (by kernel_rfl) rfl rfl
      have hg_ : a_.eval (.tmp 39) = .bool true := hk_.got 6 39 _ (by kernel_rfl) rfl rfl
      have hy_ := hk_.want 6 _ 39 true rfl rfl hg_
      have hx_ := hk_.ext
      clear hk_
      refine flow_want rfl hy_ ?_
      unfold gives
      have hc_ : ∀ v, a_.eval (.const v) = v := fun _ => rfl
      have hn_ : ∀ f, a_.eval (.func f) = .func (.func f) #[] #[] := fun _ => rfl
      clear hy_ hg_
      generalize a_.eval = ρ_ at *
      go_simp
      exact ⟨Below.refl _ _, rfl⟩
    refine allFrom_cons ?_ ?_
    · intro a_ w_ hk_
      have h39 : a_.eval (.tmp 39) = (.bool true) := hk_.got 6 39 _ (by kernel_rfl) rfl rfl
      have h41 : a_.eval (.tmp 41) = (.bool true) := hk_.got 8 41 _ (by kernel_rfl) rfl rfl
      have hx_ := hk_.ext
      clear hk_
      refine flow_plain rfl ?_
      exact gives_pick rfl h39 ⟨Below.refl _ _, h41⟩
    refine allFrom_cons ?_ ?_
    · intro a_ w_ hk_
      have h42 : a_.eval (.tmp 42) = (.bool true) := hk_.got 9 42 _ (by kernel_rfl) rfl rfl
      have hx_ := hk_.ext
      clear hk_
      refine flow_plain rfl ?_
      exact gives_move rfl ⟨Below.refl _ _, h42⟩
    refine allFrom_cons ?_ ?_
    · intro a_ w_ hk_
      have h3 : a_.eval (.tmp 3) = .int .i64 0 := hk_.old 3 (by kernel_rfl)
      have hg_ : a_.eval (.tmp 43) = .bool true := hk_.got 10 43 _ (by kernel_rfl) rfl rfl
      have hy_ := hk_.want 10 _ 43 true rfl rfl hg_
      have hx_ := hk_.ext
      clear hk_
      refine flow_want rfl hy_ ?_
      exact gives_move rfl ⟨Below.refl _ _, h3⟩
    refine allFrom_cons ?_ ?_
    · intro a_ w_ hk_
      have h44 : a_.eval (.tmp 44) = (.int .i64 0) := hk_.got 11 44 _ (by kernel_rfl) rfl rfl
      have hg_ : a_.eval (.tmp 43) = .bool true := hk_.got 10 43 _ (by kernel_rfl) rfl rfl
      have hy_ := hk_.want 10 _ 43 true rfl rfl hg_
      have hx_ := hk_.ext
      clear hk_
      refine flow_want rfl hy_ ?_
      unfold gives
      have hc_ : ∀ v, a_.eval (.const v) = v := fun _ => rfl
      have hn_ : ∀ f, a_.eval (.func f) = .func (.func f) #[] #[] := fun _ => rfl
      clear hy_ hg_
      generalize a_.eval = ρ_ at *
      go_simp
      exact ⟨Below.refl _ _, rfl⟩
    refine allFrom_cons ?_ ?_
    · intro a_ w_ hk_
      have h43 : a_.eval (.tmp 43) = (.bool true) := hk_.got 10 43 _ (by kernel_rfl) rfl rfl
      have h45 : a_.eval (.tmp 45) = (.bool true) := hk_.got 12 45 _ (by kernel_rfl) rfl rfl
      have hx_ := hk_.ext
      clear hk_
      refine flow_plain rfl ?_
      exact gives_pick rfl h43 ⟨Below.refl _ _, h45⟩
    refine allFrom_cons ?_ ?_
    · intro a_ w_ hk_
      have h46 : a_.eval (.tmp 46) = (.bool true) := hk_.got 13 46 _ (by kernel_rfl) rfl rfl
      have hx_ := hk_.ext
      clear hk_
      refine flow_plain rfl ?_
      exact gives_move rfl ⟨Below.refl _ _, h46⟩
    refine allFrom_cons ?_ ?_
    · intro a_ w_ hk_
      have h2 : a_.eval (.tmp 2) = .slice Ap 4 cp := hk_.old 2 (by kernel_rfl)
      have hg_ : a_.eval (.tmp 47) = .bool true := hk_.got 14 47 _ (by kernel_rfl) rfl rfl
      have hy_ := hk_.want 14 _ 47 true rfl rfl hg_
      have hx_ := hk_.ext
      clear hk_
      refine flow_want rfl hy_ ?_
      exact gives_move rfl ⟨Below.refl _ _, h2⟩
    refine allFrom_cons ?_ ?_
    · intro a_ w_ hk_
      have h48 : a_.eval (.tmp 48) = (.slice Ap 4 cp) := hk_.got 15 48 _ (by kernel_rfl) rfl rfl
      have hg_ : a_.eval (.tmp 47) = .bool true := hk_.got 14 47 _ (by kernel_rfl) rfl rfl
      have hy_ := hk_.want 14 _ 47 true rfl rfl hg_
      have hx_ := hk_.ext
      clear hk_
      refine flow_want rfl hy_ ?_
      unfold gives
      have hc_ : ∀ v, a_.eval (.const v) = v := fun _ => rfl
      have hn_ : ∀ f, a_.eval (.func f) = .func (.func f) #[] #[] := fun _ => rfl
      clear hy_ hg_
      generalize a_.eval = ρ_ at *
      go_simp
      exact ⟨Below.refl _ _, rfl⟩
    refine allFrom_cons ?_ ?_
    · intro a_ w_ hk_
      have h49 : a_.eval (.tmp 49) = (.int .i64 4) := hk_.got 16 49 _ (by kernel_rfl) rfl rfl
      have hg_ : a_.eval (.tmp 47) = .bool true := hk_.got 14 47 _ (by kernel_rfl) rfl rfl
      have hy_ := hk_.want 14 _ 47 true rfl rfl hg_
      have hx_ := hk_.ext
      clear hk_
      refine flow_want rfl hy_ ?_
      unfold gives
      have hc_ : ∀ v, a_.eval (.const v) = v := fun _ => rfl
      have hn_ : ∀ f, a_.eval (.func f) = .func (.func f) #[] #[] := fun _ => rfl
      clear hy_ hg_
      generalize a_.eval = ρ_ at *
      go_simp
      exact ⟨Below.refl _ _, rfl⟩
    refine allFrom_cons ?_ ?_
    · intro a_ w_ hk_
      have h47 : a_.eval (.tmp 47) = (.bool true) := hk_.got 14 47 _ (by kernel_rfl) rfl rfl
      have h50 : a_.eval (.tmp 50) = (.bool true) := hk_.got 17 50 _ (by kernel_rfl) rfl rfl
      have hx_ := hk_.ext
      clear hk_
      refine flow_plain rfl ?_
      exact gives_pick rfl h47 ⟨Below.refl _ _, h50⟩
    refine allFrom_cons ?_ ?_
    · intro a_ w_ hk_
      have h51 : a_.eval (.tmp 51) = (.bool true) := hk_.got 18 51 _ (by kernel_rfl) rfl rfl
      have hx_ := hk_.ext
      clear hk_
      refine flow_plain rfl ?_
      exact gives_move rfl ⟨Below.refl _ _, h51⟩
    refine allFrom_cons ?_ ?_
    · intro a_ w_ hk_
      have h4 : a_.eval (.tmp 4) = .pointer (some ⟨g4, 0, none⟩) := hk_.old 4 (by kernel_rfl)
      have hg_ : a_.eval (.tmp 52) = .bool true := hk_.got 19 52 _ (by kernel_rfl) rfl rfl
      have hy_ := hk_.want 19 _ 52 true rfl rfl hg_
      have hx_ := hk_.ext
      clear hk_
      refine flow_want rfl hy_ ?_
      exact gives_ldC rfl h4 hka3 (blk_cells (hA10.below hx_ hA10.lt)) ⟨Below.refl _ _, rfl⟩
    refine allFrom_cons ?_ ?_
    · intro a_ w_ hk_
      have h5 : a_.eval (.tmp 5) = .pointer (some ⟨g5, 0, none⟩) := hk_.old 5 (by kernel_rfl)
      have hg_ : a_.eval (.tmp 52) = .bool true := hk_.got 19 52 _ (by kernel_rfl) rfl rfl
      have hy_ := hk_.want 19 _ 52 true rfl rfl hg_
      have hx_ := hk_.ext
      clear hk_
      refine flow_want rfl hy_ ?_
      exact gives_ldC rfl h5 hka7 (blk_cells (hB10.below hx_ hB10.lt)) ⟨Below.refl _ _, rfl⟩
    refine allFrom_cons ?_ ?_
    · intro a_ w_ hk_
      have h2 : a_.eval (.tmp 2) = .slice Ap 4 cp := hk_.old 2 (by kernel_rfl)
      have hg_ : a_.eval (.tmp 52) = .bool true := hk_.got 19 52 _ (by kernel_rfl) rfl rfl
      have hy_ := hk_.want 19 _ 52 true rfl rfl hg_
      have hx_ := hk_.ext
      clear hk_
      refine flow_want rfl hy_ ?_
      exact gives_move rfl ⟨Below.refl _ _, h2⟩
    refine allFrom_cons ?_ ?_
    · intro a_ w_ hk_
      have h53 : a_.eval (.tmp 53) = (.agg (kcell 3 r3).toArray) := hk_.got 20 53 _ (by kernel_rfl) rfl rfl
      have h54 : a_.eval (.tmp 54) = (.agg (kcell 7 r7).toArray) := hk_.got 21 54 _ (by kernel_rfl) rfl rfl
      have h55 : a_.eval (.tmp 55) = (.slice Ap 4 cp) := hk_.got 22 55 _ (by kernel_rfl) rfl rfl
      have hg_ : a_.eval (.tmp 52) = .bool true := hk_.got 19 52 _ (by kernel_rfl) rfl rfl
      have hy_ := hk_.want 19 _ 52 true rfl rfl hg_
      have hx_ := hk_.ext
      clear hk_
      refine flow_want rfl hy_ ?_
      unfold gives
      have hc_ : ∀ v, a_.eval (.const v) = v := fun _ => rfl
      have hn_ : ∀ f, a_.eval (.func f) = .func (.func f) #[] #[] := fun _ => rfl
      clear hy_ hg_
      generalize a_.eval = ρ_ at *
      go_simp
      exact (Verify_any w_ (HL.out.below (bx_trans HB10.out hx_)) 3 7 4 cp Ap r3 r7 P HPL.out (by decide) (by decide) h3 h7 HPK.out ((HRD.out.below hx_).more hx_.size) (by omega) (by omega) (by omega)).mono fun e w' hh => ⟨_, hh.1, hh.2, by rw [HP.out]; rfl⟩
    refine allFrom_cons ?_ ?_
    · intro a_ w_ hk_
      have h56 : a_.eval (.tmp 56) = (.int .i64 0) := hk_.got 23 56 _ (by kernel_rfl) rfl rfl
      have hg_ : a_.eval (.tmp 52) = .bool true := hk_.got 19 52 _ (by kernel_rfl) rfl rfl
      have hy_ := hk_.want 19 _ 52 true rfl rfl hg_
      have hx_ := hk_.ext
      clear hk_
      refine flow_want rfl hy_ ?_
      unfold gives
      have hc_ : ∀ v, a_.eval (.const v) = v := fun _ => rfl
      have hn_ : ∀ f, a_.eval (.func f) = .func (.func f) #[] #[] := fun _ => rfl
      clear hy_ hg_
      generalize a_.eval = ρ_ at *
      go_simp
      exact ⟨Below.refl _ _, rfl⟩
    refine allFrom_cons ?_ ?_
    · intro a_ w_ hk_
      have h52 : a_.eval (.tmp 52) = (.bool true) := hk_.got 19 52 _ (by kernel_rfl) rfl rfl
      have h57 : a_.eval (.tmp 57) = (.bool true) := hk_.got 24 57 _ (by kernel_rfl) rfl rfl
      have hx_ := hk_.ext
      clear hk_
      refine flow_plain rfl ?_
      exact gives_pick rfl h52 ⟨Below.refl _ _, h57⟩
    refine allFrom_cons ?_ ?_
    · intro a_ w_ hk_
      have h58 : a_.eval (.tmp 58) = (.bool true) := hk_.got 25 58 _ (by kernel_rfl) rfl rfl
      have hx_ := hk_.ext
      clear hk_
      refine flow_plain rfl ?_
      exact gives_move rfl ⟨Below.refl _ _, h58⟩
    refine allFrom_cons ?_ ?_
    · intro a_ w_ hk_
      have h5 : a_.eval (.tmp 5) = .pointer (some ⟨g5, 0, none⟩) := hk_.old 5 (by kernel_rfl)
      have hg_ : a_.eval (.tmp 59) = .bool true := hk_.got 26 59 _ (by kernel_rfl) rfl rfl
      have hy_ := hk_.want 26 _ 59 true rfl rfl hg_
      have hx_ := hk_.ext
      clear hk_
      refine flow_want rfl hy_ ?_
      exact gives_ldC rfl h5 hka7 (blk_cells (hB10.below hx_ hB10.lt)) ⟨Below.refl _ _, rfl⟩
    refine allFrom_cons ?_ ?_
    · intro a_ w_ hk_
      have h4 : a_.eval (.tmp 4) = .pointer (some ⟨g4, 0, none⟩) := hk_.old 4 (by kernel_rfl)
      have hg_ : a_.eval (.tmp 59) = .bool true := hk_.got 26 59 _ (by kernel_rfl) rfl rfl
      have hy_ := hk_.want 26 _ 59 true rfl rfl hg_
      have hx_ := hk_.ext
      clear hk_
      refine flow_want rfl hy_ ?_
      exact gives_ldC rfl h4 hka3 (blk_cells (hA10.below hx_ hA10.lt)) ⟨Below.refl _ _, rfl⟩
    refine allFrom_cons ?_ ?_
    · intro a_ w_ hk_
      have h2 : a_.eval (.tmp 2) = .slice Ap 4 cp := hk_.old 2 (by kernel_rfl)
      have hg_ : a_.eval (.tmp 59) = .bool true := hk_.got 26 59 _ (by kernel_rfl) rfl rfl
      have hy_ := hk_.want 26 _ 59 true rfl rfl hg_
      have hx_ := hk_.ext
      clear hk_
      refine flow_want rfl hy_ ?_
      exact gives_move rfl ⟨Below.refl _ _, h2⟩
    refine allFrom_cons ?_ ?_
    · intro a_ w_ hk_
      have h60 : a_.eval (.tmp 60) = (.agg (kcell 7 r7).toArray) := hk_.got 27 60 _ (by kernel_rfl) rfl rfl
      have h61 : a_.eval (.tmp 61) = (.agg (kcell 3 r3).toArray) := hk_.got 28 61 _ (by kernel_rfl) rfl rfl
      have h62 : a_.eval (.tmp 62) = (.slice Ap 4 cp) := hk_.got 29 62 _ (by kernel_rfl) rfl rfl
      have hg_ : a_.eval (.tmp 59) = .bool true := hk_.got 26 59 _ (by kernel_rfl) rfl rfl
      have hy_ := hk_.want 26 _ 59 true rfl rfl hg_
      have hx_ := hk_.ext
      clear hk_
      refine flow_want rfl hy_ ?_
      unfold gives
      have hc_ : ∀ v, a_.eval (.const v) = v := fun _ => rfl
      have hn_ : ∀ f, a_.eval (.func f) = .func (.func f) #[] #[] := fun _ => rfl
      clear hy_ hg_
      generalize a_.eval = ρ_ at *
      go_simp
      exact (Verify_any w_ (HL.out.below (bx_trans HB10.out hx_)) 7 3 4 cp Ap r7 r3 P HPL.out (by decide) (by decide) h7 h3 HPK.out ((HRD.out.below hx_).more hx_.size) (by omega) (by omega) (by omega)).mono fun e w' hh => ⟨_, hh.1, hh.2, by rw [HP73.out]; rfl⟩
    refine allFrom_cons ?_ ?_
    · intro a_ w_ hk_
      have h63 : a_.eval (.tmp 63) = (.int .i64 15) := hk_.got 30 63 _ (by kernel_rfl) rfl rfl
      have hg_ : a_.eval (.tmp 59) = .bool true := hk_.got 26 59 _ (by kernel_rfl) rfl rfl
      have hy_ := hk_.want 26 _ 59 true rfl rfl hg_
      have hx_ := hk_.ext
      clear hk_
      refine flow_want rfl hy_ ?_
      unfold gives
      have hc_ : ∀ v, a_.eval (.const v) = v := fun _ => rfl
      have hn_ : ∀ f, a_.eval (.func f) = .func (.func f) #[] #[] := fun _ => rfl
      clear hy_ hg_
      generalize a_.eval = ρ_ at *
      go_simp
      exact ⟨Below.refl _ _, rfl⟩
    refine allFrom_cons ?_ ?_
    · intro a_ w_ hk_
      have h59 : a_.eval (.tmp 59) = (.bool true) := hk_.got 26 59 _ (by kernel_rfl) rfl rfl
      have h64 : a_.eval (.tmp 64) = (.bool true) := hk_.got 31 64 _ (by kernel_rfl) rfl rfl
      have hx_ := hk_.ext
      clear hk_
      refine flow_plain rfl ?_
      exact gives_pick rfl h59 ⟨Below.refl _ _, h64⟩
    refine allFrom_cons ?_ ?_
    · intro a_ w_ hk_
      have h65 : a_.eval (.tmp 65) = (.bool true) := hk_.got 32 65 _ (by kernel_rfl) rfl rfl
      have hx_ := hk_.ext
      clear hk_
      refine flow_plain rfl ?_
      exact gives_move rfl ⟨Below.refl _ _, h65⟩
    refine allFrom_cons ?_ ?_
    · intro a_ w_ hk_
      have h4 : a_.eval (.tmp 4) = .pointer (some ⟨g4, 0, none⟩) := hk_.old 4 (by kernel_rfl)
      have hg_ : a_.eval (.tmp 66) = .bool true := hk_.got 33 66 _ (by kernel_rfl) rfl rfl
      have hy_ := hk_.want 33 _ 66 true rfl rfl hg_
      have hx_ := hk_.ext
      clear hk_
      refine flow_want rfl hy_ ?_
      exact gives_ldC rfl h4 hka3 (blk_cells (hA10.below hx_ hA10.lt)) ⟨Below.refl _ _, rfl⟩
    refine allFrom_cons ?_ ?_
    · intro a_ w_ hk_
      have h5 : a_.eval (.tmp 5) = .pointer (some ⟨g5, 0, none⟩) := hk_.old 5 (by kernel_rfl)
      have hg_ : a_.eval (.tmp 66) = .bool true := hk_.got 33 66 _ (by kernel_rfl) rfl rfl
      have hy_ := hk_.want 33 _ 66 true rfl rfl hg_
      have hx_ := hk_.ext
      clear hk_
      refine flow_want rfl hy_ ?_
      exact gives_ldC rfl h5 hka7 (blk_cells (hB10.below hx_ hB10.lt)) ⟨Below.refl _ _, rfl⟩
    refine allFrom_cons ?_ ?_
    · intro a_ w_ hk_
      have h2 : a_.eval (.tmp 2) = .slice Ap 4 cp := hk_.old 2 (by kernel_rfl)
      have hg_ : a_.eval (.tmp 66) = .bool true := hk_.got 33 66 _ (by kernel_rfl) rfl rfl
      have hy_ := hk_.want 33 _ 66 true rfl rfl hg_
      have hx_ := hk_.ext
      clear hk_
      refine flow_want rfl hy_ ?_
      exact gives_move rfl ⟨Below.refl _ _, h2⟩
    refine allFrom_cons ?_ ?_
    · intro a_ w_ hk_
      have h69 : a_.eval (.tmp 69) = (.slice Ap 4 cp) := hk_.got 36 69 _ (by kernel_rfl) rfl rfl
      have hg_ : a_.eval (.tmp 66) = .bool true := hk_.got 33 66 _ (by kernel_rfl) rfl rfl
      have hy_ := hk_.want 33 _ 66 true rfl rfl hg_
      have hx_ := hk_.ext
      clear hk_
      refine flow_want rfl hy_ ?_
      unfold gives
      have hc_ : ∀ v, a_.eval (.const v) = v := fun _ => rfl
      have hn_ : ∀ f, a_.eval (.func f) = .func (.func f) #[] #[] := fun _ => rfl
      clear hy_ hg_
      generalize a_.eval = ρ_ at *
      go_simp
      exact ⟨Below.refl _ _, rfl⟩
    refine allFrom_cons ?_ ?_
    · intro a_ w_ hk_
      have h67 : a_.eval (.tmp 67) = (.agg (kcell 3 r3).toArray) := hk_.got 34 67 _ (by kernel_rfl) rfl rfl
      have h68 : a_.eval (.tmp 68) = (.agg (kcell 7 r7).toArray) := hk_.got 35 68 _ (by kernel_rfl) rfl rfl
      have h70 : a_.eval (.tmp 70) = (.slice Ap 3 cp) := hk_.got 37 70 _ (by kernel_rfl) rfl rfl
      have hg_ : a_.eval (.tmp 66) = .bool true := hk_.got 33 66 _ (by kernel_rfl) rfl rfl
      have hy_ := hk_.want 33 _ 66 true rfl rfl hg_
      have hx_ := hk_.ext
      clear hk_
      refine flow_want rfl hy_ ?_
      unfold gives
      have hc_ : ∀ v, a_.eval (.const v) = v := fun _ => rfl
      have hn_ : ∀ f, a_.eval (.func f) = .func (.func f) #[] #[] := fun _ => rfl
      clear hy_ hg_
      generalize a_.eval = ρ_ at *
      go_simp
      exact (Verify_any w_ (HL.out.below (bx_trans HB10.out hx_)) 3 7 3 cp Ap r3 r7 (P.take 3) HPT3.out (by decide) (by decide) h3 h7 HPT.out ((HRDT.out.below hx_).more hx_.size) (by omega) (by omega) (by omega)).mono fun e w' hh => ⟨_, hh.1, hh.2, by rw [HPS.out]; rfl⟩
    refine allFrom_cons ?_ ?_
    · intro a_ w_ hk_
      have h71 : a_.eval (.tmp 71) = (.int .i64 20) := hk_.got 38 71 _ (by kernel_rfl) rfl rfl
      have hg_ : a_.eval (.tmp 66) = .bool true := hk_.got 33 66 _ (by kernel_rfl) rfl rfl
      have hy_ := hk_.want 33 _ 66 true rfl rfl hg_
      have hx_ := hk_.ext
      clear hk_
      refine flow_want rfl hy_ ?_
      unfold gives
      have hc_ : ∀ v, a_.eval (.const v) = v := fun _ => rfl
      have hn_ : ∀ f, a_.eval (.func f) = .func (.func f) #[] #[] := fun _ => rfl
      clear hy_ hg_
      generalize a_.eval = ρ_ at *
      go_simp
      exact ⟨Below.refl _ _, rfl⟩
    refine allFrom_cons ?_ ?_
    · intro a_ w_ hk_
      have h66 : a_.eval (.tmp 66) = (.bool true) := hk_.got 33 66 _ (by kernel_rfl) rfl rfl
      have h72 : a_.eval (.tmp 72) = (.bool true) := hk_.got 39 72 _ (by kernel_rfl) rfl rfl
      have hx_ := hk_.ext
      clear hk_
      refine flow_plain rfl ?_
      exact gives_pick rfl h66 ⟨Below.refl _ _, h72⟩
    exact allFrom_nil
  intro f_ w_ hx_ hf_
  have h33 : f_ 33 = (.int .i64 4) := hf_ 0 33 _ (by decide) rfl rfl
  have h34 : f_ 34 = (.bool true) := hf_ 1 34 _ (by decide) rfl rfl
  have h35 : f_ 35 = (.bool true) := hf_ 2 35 _ (by decide) rfl rfl
  have h36 : f_ 36 = (.int .i64 1) := hf_ 3 36 _ (by decide) rfl rfl
  have h37 : f_ 37 = (.bool true) := hf_ 4 37 _ (by decide) rfl rfl
  have h38 : f_ 38 = (.bool true) := hf_ 5 38 _ (by decide) rfl rfl
  have h39 : f_ 39 = (.bool true) := hf_ 6 39 _ (by decide) rfl rfl
  have h40 : f_ 40 = (.int .i64 0) := hf_ 7 40 _ (by decide) rfl rfl
  have h41 : f_ 41 = (.bool true) := hf_ 8 41 _ (by decide) rfl rfl
  have h42 : f_ 42 = (.bool true) := hf_ 9 42 _ (by decide) rfl rfl
  have h43 : f_ 43 = (.bool true) := hf_ 10 43 _ (by decide) rfl rfl
  have h44 : f_ 44 = (.int .i64 0) := hf_ 11 44 _ (by decide) rfl rfl
  have h45 : f_ 45 = (.bool true) := hf_ 12 45 _ (by decide) rfl rfl
  have h46 : f_ 46 = (.bool true) := hf_ 13 46 _ (by decide) rfl rfl
  have h47 : f_ 47 = (.bool true) := hf_ 14 47 _ (by decide) rfl rfl
  have h48 : f_ 48 = (.slice Ap 4 cp) := hf_ 15 48 _ (by decide) rfl rfl
  have h49 : f_ 49 = (.int .i64 4) := hf_ 16 49 _ (by decide) rfl rfl
  have h50 : f_ 50 = (.bool true) := hf_ 17 50 _ (by decide) rfl rfl
  have h51 : f_ 51 = (.bool true) := hf_ 18 51 _ (by decide) rfl rfl
  have h52 : f_ 52 = (.bool true) := hf_ 19 52 _ (by decide) rfl rfl
  have h53 : f_ 53 = (.agg (kcell 3 r3).toArray) := hf_ 20 53 _ (by decide) rfl rfl
  have h54 : f_ 54 = (.agg (kcell 7 r7).toArray) := hf_ 21 54 _ (by decide) rfl rfl
  have h55 : f_ 55 = (.slice Ap 4 cp) := hf_ 22 55 _ (by decide) rfl rfl
  have h56 : f_ 56 = (.int .i64 0) := hf_ 23 56 _ (by decide) rfl rfl
  have h57 : f_ 57 = (.bool true) := hf_ 24 57 _ (by decide) rfl rfl
  have h58 : f_ 58 = (.bool true) := hf_ 25 58 _ (by decide) rfl rfl
  have h59 : f_ 59 = (.bool true) := hf_ 26 59 _ (by decide) rfl rfl
  have h60 : f_ 60 = (.agg (kcell 7 r7).toArray) := hf_ 27 60 _ (by decide) rfl rfl
  have h61 : f_ 61 = (.agg (kcell 3 r3).toArray) := hf_ 28 61 _ (by decide) rfl rfl
  have h62 : f_ 62 = (.slice Ap 4 cp) := hf_ 29 62 _ (by decide) rfl rfl
  have h63 : f_ 63 = (.int .i64 15) := hf_ 30 63 _ (by decide) rfl rfl
  have h64 : f_ 64 = (.bool true) := hf_ 31 64 _ (by decide) rfl rfl
  have h65 : f_ 65 = (.bool true) := hf_ 32 65 _ (by decide) rfl rfl
  have h66 : f_ 66 = (.bool true) := hf_ 33 66 _ (by decide) rfl rfl
  have h67 : f_ 67 = (.agg (kcell 3 r3).toArray) := hf_ 34 67 _ (by decide) rfl rfl
  have h68 : f_ 68 = (.agg (kcell 7 r7).toArray) := hf_ 35 68 _ (by decide) rfl rfl
  have h69 : f_ 69 = (.slice Ap 4 cp) := hf_ 36 69 _ (by decide) rfl rfl
  have h70 : f_ 70 = (.slice Ap 3 cp) := hf_ 37 70 _ (by decide) rfl rfl
  have h71 : f_ 71 = (.int .i64 20) := hf_ 38 71 _ (by decide) rfl rfl
  have h72 : f_ 72 = (.bool true) := hf_ 39 72 _ (by decide) rfl rfl
  have h73 : f_ 73 = (.bool true) := hf_ 40 73 _ (by decide) rfl rfl
  simp only [mix, List.drop_succ_cons, List.drop_zero, h33, h34, h35, h36, h37, h38, h39, h40, h41, h42, h43, h44, h45, h46, h47, h48, h49, h50, h51, h52, h53, h54, h55, h56, h57, h58, h59, h60, h61, h62, h63, h64, h65, h66, h67, h68, h69, h70, h71, h72, h73]
  clear h33 h34 h35 h36 h37 h38 h39 h40 h41 h42 h43 h44 h45 h46 h47 h48 h49 h50 h51 h52 h53 h54 h55 h56 h57 h58 h59 h60 h61 h62 h63 h64 h65 h66 h67 h68 h69 h70 h71 h72 h73
  clear hf_
  have HF := hid (bx_trans HB10.out hx_)
  clear hx_
  go_wp2
  go_ret
  exact ⟨rfl, HF.out⟩
end Go.Proofs.YtjkolpioglpigaaDoor
