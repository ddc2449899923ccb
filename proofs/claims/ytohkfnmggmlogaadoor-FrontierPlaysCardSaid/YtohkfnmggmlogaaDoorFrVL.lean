
/- FrV and FrL0, in one text. -/
import Derived.Test.YtohkfnmggmlogaaDoorFrTU
import Derived.OpenShut
namespace Go.Proofs.YtohkfnmggmlogaaDoor
open Go.RowKit
set_option linter.unusedVariables false
theorem wr_u64i (x : Int) (h0 : 0 ≤ x) (h1 : x < 18446744073709551616) : IntKind.u64.wrap x = x := by simp only [IntKind.wrap, IntKind.bits, IntKind.signed]; simp; omega
def hsU (st : List (Nat × List UInt8)) : List Value := (st.map (·.2)).reverse.flatten.map cb
def nsU (st : List (Nat × List UInt8)) : List Value := (st.map (·.1)).reverse.map un
theorem hsU_cons (p : Nat × List UInt8) (r : List (Nat × List UInt8)) : hsU (p :: r) = hsU r ++ p.2.map cb := by
  unfold hsU
  simp
theorem nsU_cons (p : Nat × List UInt8) (r : List (Nat × List UInt8)) : nsU (p :: r) = nsU r ++ [.int .u64 (p.1 : Int)] := by
  unfold nsU un
  simp
theorem nsU_len (r : List (Nat × List UInt8)) : (nsU r).length = r.length := by unfold nsU; simp
theorem hsU_len : ∀ (r : List (Nat × List UInt8)), (∀ p ∈ r, p.2.length = 32) → (hsU r).length = r.length * 32
  | [], _ => rfl
  | p :: r, h => by
    rw [hsU_cons, List.length_append, hsU_len r fun q hq => h q (List.mem_cons_of_mem _ hq), List.length_map, h p (List.mem_cons_self ..), List.length_cons]
    omega
theorem hsU_take (p : Nat × List UInt8) (r : List (Nat × List UInt8)) (h : ∀ q ∈ r, q.2.length = 32) : (hsU (p :: r)).take (r.length * 32) = hsU r := by
  rw [hsU_cons, List.take_append_of_le_length (by rw [hsU_len r h]; omega), List.take_of_length_le (by rw [hsU_len r h]; omega)]
theorem nsU_take (p : Nat × List UInt8) (r : List (Nat × List UInt8)) : (nsU (p :: r)).take (r.length * 1) = nsU r := by
  rw [nsU_cons, List.take_append_of_le_length (by rw [nsU_len]; omega), List.take_of_length_le (by rw [nsU_len]; omega)]
theorem one_nsU (l : List Value) (h : ∀ v ∈ l, ∃ n : Int, v = .int .u64 n) : ∀ u ∈ l, u.oneCell' = true := by
  intro u hu
  obtain ⟨n, rfl⟩ := h u hu
  rfl
set_option maxRecDepth 10000 in
set_option maxHeartbeats 1000000 in
theorem rAdd_full (w : World) (A1 : Option Addr) (m1 k1 : Nat) (A2 : Option Addr) (m c2 : Nat) (v : Value) :
    Calls Tryd.prog 18 #[.agg (fcs 18446744073709551615 A1 m1 k1 A2 m c2).toArray, v] w fun e w' => e = .returned (.tuple #[.agg (fcs 18446744073709551615 A1 m1 k1 A2 m c2).toArray, .int .i64 31]) ∧ Below w.heap.size w w' := by
  have hb1 : Below w.heap.size w (w.alloc (.cells (fcs 18446744073709551615 A1 m1 k1 A2 m c2).toArray tFv)) := bx_alloc (Below.refl _ _) _
  have hB1 := Blk.new w tFv (fcs 18446744073709551615 A1 m1 k1 A2 m c2).toArray
  obtain ⟨cs, hcs⟩ : ∃ cs, cs = fcs 18446744073709551615 A1 m1 k1 A2 m c2 := ⟨_, rfl⟩
  have hag : AggT Tryd.prog tFv cs.length := by rw [hcs]; exact aggF _ _ _ _ _ _ _
  have hags : AggT Tryd.prog tFv cs.toArray.size := by rw [hcs]; exact aggFS _ _ _ _ _ _ _
  have h3 : cs.length = 3 := by rw [hcs]; rfl
  have h1c : ∀ v ∈ cs.toArray.toList, v.oneCell' = true := by rw [hcs]; exact oneF _ _ _ _ _ _ _
  have hg0 : cs.toArray[0]? = some (.int .u64 18446744073709551615) := by rw [hcs]; rfl
  rw [← hcs] at hb1 hB1 ⊢
  clear hcs
  go_enter Tryd.func18, Tryd.ntmps18
  go_wp2_with (first
    | ((with_reducible refine wpAtC ?_); refine wpList_alloc (w := w.alloc (.cells cs.toArray tFv)) rfl _ rfl zeroF ?_; intro gr w2 hgr hgr' hzr hb2; have hB2 := hB1.below hb2 hB1.lt; have c00 := (hB2.cell 0).trans hg0; have hcx := blk_cells hB2; have hb02 := hb1.trans (hb2.mono hb1.size); simp only [Act.put, List.setIfInBounds_toArray, List.set_cons_succ, List.set_cons_zero])
    | ((with_reducible refine wpAtC ?_); refine wpList_loadG rfl _ _ rfl _ _ rfl cs hag hcx ?_; simp only [Act.put, List.setIfInBounds_toArray, List.set_cons_succ, List.set_cons_zero])
    | ((with_reducible refine wpAtC ?_); refine wpList_store_agg rfl _ _ _ rfl _ _ rfl cs.toArray rfl hags hzr (szF h3 rfl) h1c ?_; intro w4 hp4; simp only [Act.put]; rw [splF h3 rfl] at hp4))
  refine bodyPost_ret (results_agg2 (cs := cs) rfl rfl hag (blk_cells hp4.blk)) rfl ?_
  exact ⟨rfl, bx_put hb02 hp4 (Nat.le_trans hb1.size hgr)⟩
set_option maxRecDepth 10000 in
set_option maxHeartbeats 2000000 in
theorem rAdd_any (w : World) (N : Nat) (hN : N < 18446744073709551615) {st : List (List UInt8)} (hst : st.length = ones N) (h32 : ∀ q ∈ st, q.length = 32) (A1 : Option Addr) (k1 : Nat) (A2 : Option Addr) (m k2 : Nat) (hm : st.length = m)
    (hr1 : Rd w w.heap.size A1 ((partsR 1 N).reverse.map un)) (hr2 : Rd w w.heap.size A2 (st.reverse.flatten.map cb)) (en : List UInt8) (hen : en.length ≤ 60) :
    Calls Tryd.prog 18 #[.agg (fcs N A1 m k1 A2 m k2).toArray, .string ⟨en.toArray⟩] w fun e w' => ∃ m' A1' k1' A2' k2', e = .returned (.tuple #[.agg (fcs (N + 1) A1' m' k1' A2' m' k2').toArray, .int .i64 0]) ∧ m' = (fadd N st (leafL en)).length ∧
      w'.ownsRow w.heap.size tU 1 (.slice A1' m' k1') m' ((partsR 1 (N + 1)).reverse.map un) ∧ w'.ownsRow w.heap.size tHa 32 (.slice A2' m' k2') m' ((fadd N st (leafL en)).reverse.flatten.map cb) ∧ Below w.heap.size w w' := by
  have hpl := partsR_len _ 1 N (Nat.le_refl _)
  have hiz := ins_zip st 1 N (leafL en) (by decide) hst
  have hfl := fadd_len st N (leafL en) hst
  have hpl1 := partsR_len _ 1 (N + 1) (Nat.le_refl _)
  have hm64 := ones_le 64 N (by omega)
  obtain ⟨sz, hsz⟩ : ∃ sz, sz = (partsR 1 N).zip st := ⟨_, rfl⟩
  have hszl : sz.length = m := by rw [hsz, List.length_zip, hpl, ← hst, Nat.min_self, hm]
  have hsz1 : nsU sz = (partsR 1 N).reverse.map un := by
    unfold nsU
    rw [hsz, List.map_fst_zip (by omega)]
  have hsz2 : hsU sz = st.reverse.flatten.map cb := by
    unfold hsU
    rw [hsz, List.map_snd_zip (by omega)]
  have hszs : sizeS sz = N := by
    unfold sizeS
    rw [hsz, List.map_fst_zip (by omega), partsR_sum _ _ _ (Nat.le_refl _), Nat.one_mul]
  have hszk : ∀ q ∈ sz, q.2.length = 32 := by
    intro q hq
    have : q.2 ∈ sz.map (·.2) := List.mem_map.2 ⟨q, hq, rfl⟩
    rw [hsz, List.map_snd_zip (by omega)] at this
    exact h32 _ this
  rw [← hsz] at hiz
  obtain ⟨Z, hZ⟩ : ∃ Z, Z = fin ((1, leafL en) :: sz) := ⟨_, rfl⟩
  have hZe : Z = (partsR 1 (N + 1)).zip (fadd N st (leafL en)) := by rw [hZ, ← hiz]; rfl
  have HZL := hid (show (fadd N st (leafL en)).length = Z.length by rw [hZe, List.length_zip, hpl1, hfl, Nat.min_self])
  have HZN := hid (show (partsR 1 (N + 1)).reverse.map un = nsU Z by unfold nsU; rw [hZe, List.map_fst_zip (by omega)])
  have HZH := hid (show (fadd N st (leafL en)).reverse.flatten.map cb = hsU Z by unfold hsU; rw [hZe, List.map_snd_zip (by omega)])
  have HLF := hid (fun w' => rLeaf_any w' en (by omega))
  obtain ⟨L, hL⟩ : ∃ L, L = leafL en := ⟨_, rfl⟩
  have hL2 : shaL (0 :: en) = L := hL.symm
  rw [hL2] at HLF
  have hLl : L.length = 32 := by rw [hL]; exact leafL_len _
  rw [← hL] at hZ
  have HZ := hid hZ
  rw [← hsz1] at hr1
  rw [← hsz2] at hr2
  have hn1l : (nsU sz).length = m * 1 := by rw [nsU_len, hszl, Nat.mul_one]
  have hh1l : (hsU sz).length = m * 32 := by rw [hsU_len sz hszk, hszl]
  have hm64' : m ≤ 64 := by omega
  have HR1 := hid hr1
  have HR2 := hid hr2
  have HSZS := hid hszs
  have HSZK := hid hszk
  have HSZL := hid hszl
  have HN1L := hid hn1l
  have HH1L := hid hh1l
  have hone1 : ∀ u ∈ nsU sz, u.oneCell' = true := one_nsU _ (by intro v hv; unfold nsU un at hv; simp at hv; obtain ⟨a, b, _, rfl⟩ := hv; exact ⟨_, rfl⟩)
  have hone2 : ∀ u ∈ hsU sz, u.oneCell' = true := one_cb _
  have HONE1 := hid hone1
  have HONE2 := hid hone2
  have hNne : ¬ (N : Int) = 18446744073709551615 := by omega
  clear hpl hiz hfl hpl1 hm64 hsz hszl hsz1 hsz2 hszs hszk hZe hL hL2 hr1 hr2 hn1l hh1l hZ hone1 hone2 hst h32 hm
  have hb1 : Below w.heap.size w (w.alloc (.cells (fcs N A1 m k1 A2 m k2).toArray tFv)) := bx_alloc (Below.refl _ _) _
  have hB1 := Blk.new w tFv (fcs N A1 m k1 A2 m k2).toArray
  go_enter Tryd.func18, Tryd.ntmps18
  generalize hC5 : Code.region 5 _ _ = C5
  have HC5 := hid hC5
  clear hC5
  generalize hC6 : Code.region 6 _ _ = C6
  have HC6 := hid hC6
  clear hC6
  generalize hC7 : Code.region 7 _ _ = C7
  have HC7 := hid hC7
  clear hC7
  generalize hC8 : Code.region 8 _ _ = C8
  have HC8 := hid hC8
  clear hC8
  generalize hC9 : Code.region 9 _ _ = C9
  have HC9 := hid hC9
  clear hC9
  go_wp2_with (first
    | ((with_reducible refine wpAtC ?_); refine wpList_alloc (w := w.alloc (.cells (fcs N A1 m k1 A2 m k2).toArray tFv)) rfl _ rfl zeroF ?_; intro gr w2 hgr hgr' hzr hb2; have c00 : w2.cell? ⟨w.heap.size, 0, none⟩ = some (.int .u64 (N : Int)) := (hb2.cell (p := ⟨w.heap.size, 0, none⟩) (by simp)).trans (hB1.cell 0); have c01 : w2.cell? ⟨w.heap.size, 1, none⟩ = some (.slice A1 m k1) := (hb2.cell (p := ⟨w.heap.size, 1, none⟩) (by simp)).trans (hB1.cell 1); have c02 : w2.cell? ⟨w.heap.size, 2, none⟩ = some (.slice A2 m k2) := (hb2.cell (p := ⟨w.heap.size, 2, none⟩) (by simp)).trans (hB1.cell 2); have hbw2 := hb1.trans (hb2.mono hb1.size); have hgB0 : w.heap.size < w2.heap.size := (by have := hb2.size; simp at this; omega); simp only [Act.put, List.setIfInBounds_toArray, List.set_cons_succ, List.set_cons_zero]))
  have hb0 : ((N : Int) == 18446744073709551615) = false := by simpa using hNne
  try rw [hb0]
  clear hb0
  have hgrw : w.heap.size ≤ gr := Nat.le_trans hb1.size hgr
  have hw2 : w.heap.size ≤ w2.heap.size := hbw2.size
  obtain ⟨gB, hgBe⟩ : ∃ gB, gB = w.heap.size := ⟨_, rfl⟩
  rw [← hgBe] at c00 c01 c02 hgB0 ⊢
  have hgB : gB < w2.heap.size := hgB0
  clear hb1 hB1 hb2 hgBe hgB0
  have hR1 := HR1.out.below hbw2
  have hR2 := HR2.out.below hbw2
  have hnil1 := World.ownsRow_nil w2 w2.heap.size tU 1
  have hnil2 := World.ownsRow_nil w2 w2.heap.size tHa 32
  have h63 : 0 + m ≤ maxLen := by unfold maxLen; omega
  have hby1 : (0 + m) * 8 ≤ 140737488355328 := by omega
  have hby2 : (0 + m) * 32 ≤ 140737488355328 := by omega
  obtain rfl := HC5.out
  clear HC5
  go_wp2_with (at_builtin; refine wpList_app rfl _ _ _ rfl _ rfl _ _ _ rfl elU hnil1 hR1 HN1L.out HONE1.out h63 hby1 (Nat.le_refl _) ?_; intro v5 w5 hown5 hg5 hat5)
  have hb25 := own_below (Below.refl _ w2) hnil1 hg5
  rw [Nat.zero_add, List.nil_append] at hown5
  obtain ⟨A5, c5, rfl, _, _, _⟩ := own_form hown5
  have hnil25 : w5.ownsRow w2.heap.size tHa 32 (.slice none 0 0) 0 [] := World.ownsRow_nil _ _ _ _
  have hR25 := HR2.out.below (hbw2.trans (hb25.mono hw2))
  have c02a := (hb25.cell (p := ⟨gB, 2, none⟩) hgB).trans c02
  have hbs5 := hb25.size
  obtain rfl := HC6.out
  clear HC6 hg5 hat5 hnil1 hnil2 hR1 hR2
  go_wp2_with (at_builtin; refine wpList_app rfl _ _ _ rfl _ rfl _ _ _ rfl elHs hnil25 hR25 HH1L.out HONE2.out h63 hby2 hbs5 ?_; intro v6 w6 hown6 hg6 hat6)
  rw [Nat.zero_add, List.nil_append] at hown6
  have hb26 := own_below hb25 hnil25 hg6
  have hown56 := hown5.kept hg6 (own_apart hown5 hnil25 (by decide))
  obtain ⟨A6, c6, rfl, _, _, _⟩ := own_form hown6
  have hb7 := bx_alloc (Below.refl _ w6) (.cells #[.int .u64 1] tU)
  have hown57 := own_keep hown56 hb7
  have hown67 := own_keep hown6 hb7
  have hrd7 := rd_of_row (w := w6.alloc (.cells #[.int .u64 1] tU)) (heap_new rfl) (xs := [.int .u64 1]) rfl
  have hb27 := hb26.trans (hb7.mono hb26.size)
  have hbs7 := hb27.size
  have h63m : m + 1 ≤ maxLen := by unfold maxLen; omega
  have hbym1 : (m + 1) * 8 ≤ 140737488355328 := by omega
  have hbym2 : (m + 1) * 32 ≤ 140737488355328 := by omega
  obtain rfl := HC7.out
  clear HC7 hg6 hat6 hown56 hown6 hown5 hb7 c01 c02 c02a hR25 hnil25
  go_wp2_with (at_builtin; refine wpList_app rfl _ _ _ rfl _ rfl _ _ _ rfl elU hown57 hrd7 rfl (one_nsU _ (by intro v hv; simp at hv; exact ⟨1, hv⟩)) h63m hbym1 hbs7 ?_; intro v8 w8 hown8 hg8 hat8)
  have hown68 := hown67.kept hg8 (own_apart hown67 hown57 (by decide))
  have hb28 := own_below hb27 hown57 hg8
  obtain ⟨A8, c8, rfl, _, _, _⟩ := own_form hown8
  obtain rfl := HC8.out
  clear HC8 hg8 hat8 hown57 hown67 hrd7 hb27 hb26 hb25
  go_wp2_with fail
  refine (HLF.out w8).mono ?_
  rintro e w9 ⟨rfl, hb9⟩
  have hb29 := hb28.trans (hb9.mono hb28.size)
  have hown89 := own_keep hown8 hb9
  have hown69 := own_keep hown68 hb9
  have hbn := bx_alloc (Below.refl _ w9) (.cells (Value.agg (L.map cb).toArray).cells tHa)
  have hown8n := own_keep hown89 hbn
  have hown6n := own_keep hown69 hbn
  have hrdn := rd_of_row (w := w9.alloc (.cells (Value.agg (L.map cb).toArray).cells tHa)) (heap_new rfl) (xs := L.map cb) rfl
  have hb2n := hb29.trans (hbn.mono hb29.size)
  have hbsn := hb2n.size
  clear hown8 hown68 hown89 hown69 hb9 hb28
  go_wp2_with (first
    | ((with_reducible refine wpAtC ?_); refine wpList_gives rfl (gives_slice1 _ _ rfl _ rfl elHs (cells_cb hLl) (by decide) (S := fun v w' => v = .slice (some ⟨w9.heap.size, 0, none⟩) 1 1 ∧ w' = w9.alloc (.cells (Value.agg (L.map cb).toArray).cells tHa)) ⟨rfl, rfl⟩) ?_; rintro v10 w10 ⟨rfl, rfl⟩; simp only [Act.put, List.setIfInBounds_toArray, List.set_cons_succ, List.set_cons_zero])
    | (at_builtin; refine wpList_app rfl _ _ _ rfl _ rfl _ _ _ rfl elHs hown6n hrdn (len_cb hLl) (one_cb _) h63m hbym2 hbsn ?_; intro v11 w11 hown11 hg11 hat11))
  have hown811 := hown8n.kept hg11 (own_apart hown8n hown6n (by decide))
  have hb211 := own_below hb2n hown6n hg11
  obtain rfl := HC9.out
  clear HC9 hg11 hat11 hown8n hown6n hrdn hb2n hb29
  have hZf : fin ((1, L) :: sz) = Z := HZ.out.symm
  have hsz0 : sizeS ((1, L) :: sz) = N + 1 := by rw [sizeS_cons, HSZS.out]; show 1 + N = _; omega
  have hok0 : ∀ q ∈ (1, L) :: sz, q.2.length = 32 := by
    intro q hq
    rcases List.mem_cons.1 hq with rfl | hq
    · exact hLl
    · exact HSZK.out q hq
  have hst0 : sz.length + 1 = m + 1 := by rw [HSZL.out]
  rw [← hsU_cons (1, L) sz] at hown11
  have hown8F : w11.ownsRow w2.heap.size tU 1 (.slice A8 (m + 1) c8) (m + 1) (nsU ((1, L) :: sz)) := by rw [nsU_cons]; exact hown811
  clear hown811
  go_wp2
  go_loopw [6, 7, 8] (fun v6 v7 v8 wq => ∃ (q : Nat × List UInt8) (r : List (Nat × List UInt8)) (n : Nat), fin (q :: r) = Z ∧ sizeS (q :: r) = N + 1 ∧ (∀ q' ∈ q :: r, q'.2.length = 32) ∧ r.length + 1 = n ∧ n ≤ 66 ∧ v8 = .int .i64 (n : Int) ∧ wq.ownsRow w2.heap.size tHa 32 v7 n (hsU (q :: r)) ∧ wq.ownsRow w2.heap.size tU 1 v6 n (nsU (q :: r)) ∧ Below w2.heap.size w2 wq) (fun _ _ v8 _ => (intOf v8).toNat)
  case atStart => exact ⟨(1, L), sz, m + 1, hZf, hsz0, hok0, hst0, by omega, by go_num, hown11, hown8F, hb211⟩
  case round =>
    clear hown11 hown8F hb211 hZf hsz0 hok0 hst0 hbn
    obtain ⟨q, r, n, hf, hz2, hk2, hrn, hn21, rfl, ho3, ho4, hbq⟩ := hrel
    rename World => wq
    obtain ⟨s, h⟩ := q
    obtain ⟨g3, p3, e3, hg3, hg3', hp3, hm3⟩ := own_block ho3 (by omega)
    obtain ⟨g4, p4, e4, hg4, hg4', hp4, hm4⟩ := own_block ho4 (by omega)
    subst e3 e4
    cases r with
    | nil =>
      rw [fin_one] at hf
      have hn1 : n ≤ 1 := by rw [List.length_nil] at hrn; omega
      have HF := hid hf
      have HRN := hid hrn
      clear hf hrn
      go_wp2_with fail
      refine wp_flow (by kernel_rfl) [0, 1, 3, 7, 7, 23, 63, 127, 7, 7, 519, 1799, 3847, 8191, 16383] 15 [false, false, false, false, false, false, false, false, false, false, false, false, false, false, false, false, false, false, false, false, false, false, false, false, false, false, false, false, false, false, false, false, true, true, true, true, true, true, true, true, true, true, true, true, true, true, true] (by kernel_rfl) (by decide) (by kernel_rfl) [FP.eq (.int .i64 (n : Int)), FP.eq (.bool false), FP.eq (.bool false), FP.any, FP.any, FP.any, FP.any, FP.any, FP.any, FP.any, FP.any, FP.any, FP.any, FP.any, FP.eq (.bool false)] ?_ ?_
      · refine allFrom_cons ?_ ?_
        · intro a_ w_ hk_
          have h8 : a_.eval (.tmp 8) = .int .i64 (n : Int) := hk_.old 8 (by kernel_rfl)
          have hx_ := hk_.ext
          clear hk_
          refine flow_plain rfl ?_
          exact gives_move rfl ⟨Below.refl _ _, h8⟩
        refine allFrom_cons ?_ ?_
        · intro a_ w_ hk_
          have h32 : a_.eval (.tmp 32) = (.int .i64 (n : Int)) := hk_.got 0 32 _ (by kernel_rfl) rfl rfl
          have hx_ := hk_.ext
          clear hk_
          refine flow_plain rfl ?_
          unfold gives
          have hc_ : ∀ v, a_.eval (.const v) = v := fun _ => rfl
          have hn_ : ∀ f, a_.eval (.func f) = .func (.func f) #[] #[] := fun _ => rfl
          generalize a_.eval = ρ_ at *
          go_simp
          exact ⟨Below.refl _ _, congrArg Value.bool (decide_eq_false (by omega))⟩
        refine allFrom_cons ?_ ?_
        · intro a_ w_ hk_
          have h33 : a_.eval (.tmp 33) = (.bool false) := hk_.got 1 33 _ (by kernel_rfl) rfl rfl
          have hx_ := hk_.ext
          clear hk_
          refine flow_plain rfl ?_
          exact gives_move rfl ⟨Below.refl _ _, h33⟩
        refine allFrom_cons ?_ ?_
        · intro a_ w_ hk_
          have h6 : a_.eval (.tmp 6) = .slice (some ⟨g4, 0, none⟩) n p4 := hk_.old 6 (by kernel_rfl)
          have hg_ : a_.eval (.tmp 34) = .bool false := hk_.got 2 34 _ (by kernel_rfl) rfl rfl
          have hy_ := hk_.want 2 _ 34 false rfl rfl hg_
          have hx_ := hk_.ext
          clear hk_
          exact flow_skip rfl hy_ (by decide) trivial
        refine allFrom_cons ?_ ?_
        · intro a_ w_ hk_
          have h8 : a_.eval (.tmp 8) = .int .i64 (n : Int) := hk_.old 8 (by kernel_rfl)
          have hg_ : a_.eval (.tmp 34) = .bool false := hk_.got 2 34 _ (by kernel_rfl) rfl rfl
          have hy_ := hk_.want 2 _ 34 false rfl rfl hg_
          have hx_ := hk_.ext
          clear hk_
          exact flow_skip rfl hy_ (by decide) trivial
        refine allFrom_cons ?_ ?_
        · intro a_ w_ hk_
          have hg_ : a_.eval (.tmp 34) = .bool false := hk_.got 2 34 _ (by kernel_rfl) rfl rfl
          have hy_ := hk_.want 2 _ 34 false rfl rfl hg_
          have hx_ := hk_.ext
          clear hk_
          exact flow_skip rfl hy_ (by decide) trivial
        refine allFrom_cons ?_ ?_
        · intro a_ w_ hk_
          have hg_ : a_.eval (.tmp 34) = .bool false := hk_.got 2 34 _ (by kernel_rfl) rfl rfl
          have hy_ := hk_.want 2 _ 34 false rfl rfl hg_
          have hx_ := hk_.ext
          clear hk_
          exact flow_skip rfl hy_ (by decide) trivial
        refine allFrom_cons ?_ ?_
        · intro a_ w_ hk_
          have hg_ : a_.eval (.tmp 34) = .bool false := hk_.got 2 34 _ (by kernel_rfl) rfl rfl
          have hy_ := hk_.want 2 _ 34 false rfl rfl hg_
          have hx_ := hk_.ext
          clear hk_
          exact flow_skip rfl hy_ (by decide) trivial
        refine allFrom_cons ?_ ?_
        · intro a_ w_ hk_
          have h6 : a_.eval (.tmp 6) = .slice (some ⟨g4, 0, none⟩) n p4 := hk_.old 6 (by kernel_rfl)
          have hg_ : a_.eval (.tmp 34) = .bool false := hk_.got 2 34 _ (by kernel_rfl) rfl rfl
          have hy_ := hk_.want 2 _ 34 false rfl rfl hg_
          have hx_ := hk_.ext
          clear hk_
          exact flow_skip rfl hy_ (by decide) trivial
        refine allFrom_cons ?_ ?_
        · intro a_ w_ hk_
          have h8 : a_.eval (.tmp 8) = .int .i64 (n : Int) := hk_.old 8 (by kernel_rfl)
          have hg_ : a_.eval (.tmp 34) = .bool false := hk_.got 2 34 _ (by kernel_rfl) rfl rfl
          have hy_ := hk_.want 2 _ 34 false rfl rfl hg_
          have hx_ := hk_.ext
          clear hk_
          exact flow_skip rfl hy_ (by decide) trivial
        refine allFrom_cons ?_ ?_
        · intro a_ w_ hk_
          have hg_ : a_.eval (.tmp 34) = .bool false := hk_.got 2 34 _ (by kernel_rfl) rfl rfl
          have hy_ := hk_.want 2 _ 34 false rfl rfl hg_
          have hx_ := hk_.ext
          clear hk_
          exact flow_skip rfl hy_ (by decide) trivial
        refine allFrom_cons ?_ ?_
        · intro a_ w_ hk_
          have hg_ : a_.eval (.tmp 34) = .bool false := hk_.got 2 34 _ (by kernel_rfl) rfl rfl
          have hy_ := hk_.want 2 _ 34 false rfl rfl hg_
          have hx_ := hk_.ext
          clear hk_
          exact flow_skip rfl hy_ (by decide) trivial
        refine allFrom_cons ?_ ?_
        · intro a_ w_ hk_
          have hg_ : a_.eval (.tmp 34) = .bool false := hk_.got 2 34 _ (by kernel_rfl) rfl rfl
          have hy_ := hk_.want 2 _ 34 false rfl rfl hg_
          have hx_ := hk_.ext
          clear hk_
          exact flow_skip rfl hy_ (by decide) trivial
        refine allFrom_cons ?_ ?_
        · intro a_ w_ hk_
          have hg_ : a_.eval (.tmp 34) = .bool false := hk_.got 2 34 _ (by kernel_rfl) rfl rfl
          have hy_ := hk_.want 2 _ 34 false rfl rfl hg_
          have hx_ := hk_.ext
          clear hk_
          exact flow_skip rfl hy_ (by decide) trivial
        refine allFrom_cons ?_ ?_
        · intro a_ w_ hk_
          have h34 : a_.eval (.tmp 34) = (.bool false) := hk_.got 2 34 _ (by kernel_rfl) rfl rfl
          have hx_ := hk_.ext
          clear hk_
          refine flow_plain rfl ?_
          exact gives_pick rfl h34 ⟨Below.refl _ _, rfl⟩
        exact allFrom_nil
      intro f_ w_ hx_ hf_
      have h32 : f_ 32 = (.int .i64 (n : Int)) := hf_ 0 32 _ (by decide) rfl rfl
      have h33 : f_ 33 = (.bool false) := hf_ 1 33 _ (by decide) rfl rfl
      have h34 : f_ 34 = (.bool false) := hf_ 2 34 _ (by decide) rfl rfl
      have h46 : f_ 46 = (.bool false) := hf_ 14 46 _ (by decide) rfl rfl
      simp only [mix, List.drop_succ_cons, List.drop_zero, h32, h33, h34, h46]
      clear h32 h33 h34 h46
      clear hf_
      have hbF := hbq.trans (hx_.mono hbq.size)
      have hzF := hzr.below hbF hzr.lt
      have c0F := (hbF.cell (p := ⟨gB, 0, none⟩) hgB).trans c00
      have ho3F := own_keep ho3 hx_
      have ho4F := own_keep ho4 hx_
      have HO3 := hid ho3F
      have HO4 := hid ho4F
      clear ho3F ho4F ho3 ho4 hx_ hbq
      go_wp2_with ((with_reducible refine wpAtC ?_); refine wpList_store_agg rfl _ _ _ rfl _ _ rfl (fcs (N + 1) (some ⟨g4, 0, none⟩) n p4 (some ⟨g3, 0, none⟩) n p3).toArray rfl (aggFS _ _ _ _ _ _ _) hzF (szF rfl rfl) (oneF _ _ _ _ _ _ _) ?_; intro wF hpF; simp only [Act.put]; rw [splF rfl rfl] at hpF)
      have hn3 := own_ne HO3.out hzF (fun cur hx => by cases hx)
      have hn4 := own_ne HO4.out hzF (fun cur hx => by cases hx)
      refine bodyPost_ret (results_agg2 (cs := fcs (N + 1) (some ⟨g4, 0, none⟩) n p4 (some ⟨g3, 0, none⟩) n p3) rfl rfl (aggF _ _ _ _ _ _ _) (blk_cells hpF.blk)) rfl ?_
      exact ⟨n, _, _, _, _, rfl, by rw [HZL.out, ← HF.out]; exact HRN.out.symm, own_more (by rw [HZN.out, ← HF.out]; exact own_other HO4.out hpF hn4) hw2, own_more (by rw [HZH.out, ← HF.out]; exact own_other HO3.out hpF hn3) hw2, bx_put (hbw2.trans (hbF.mono hw2)) hpF hgrw⟩
    | cons q' r' =>
      obtain ⟨s', h'⟩ := q'
      have hhl := hk2 _ (List.mem_cons_self ..)
      have hhl' := hk2 _ (List.mem_cons_of_mem _ (List.mem_cons_self ..))
      have hr32 : ∀ q ∈ r', q.2.length = 32 := fun q hq => hk2 q (List.mem_cons_of_mem _ (List.mem_cons_of_mem _ hq))
      simp only at hhl hhl'
      have hz3 : s + (s' + sizeS r') = N + 1 := by rw [← hz2, sizeS_cons, sizeS_cons]
      obtain ⟨k, hk⟩ : ∃ k, k = r'.length := ⟨_, rfl⟩
      obtain ⟨n1, hn1⟩ : ∃ n1, n1 = k + 1 := ⟨_, rfl⟩
      have hnk : n = k + 2 := by rw [← hrn, List.length_cons, hk]
      have ht3 := own_take ho3 (k := k) (by omega)
      have ht4 := own_take ho4 (k := k) (by omega)
      have e3 : (hsU ((s, h) :: (s', h') :: r')).take (k * 32) = hsU r' := by
        rw [hsU_cons, List.take_append_of_le_length (by rw [hsU_len _ (fun q hq => hk2 q (List.mem_cons_of_mem _ hq)), List.length_cons]; omega), hk]
        exact hsU_take (s', h') r' hr32
      have e4 : (nsU ((s, h) :: (s', h') :: r')).take (k * 1) = nsU r' := by
        rw [nsU_cons, List.take_append_of_le_length (by rw [nsU_len, List.length_cons]; omega), hk]
        exact nsU_take (s', h') r'
      rw [e3] at ht3
      rw [e4] at ht4
      have c4 : ∀ j v, (nsU ((s, h) :: (s', h') :: r'))[j]? = some v → wq.cell? ⟨g4, j, none⟩ = some v := by
        intro j v hv
        rcases own_rd ho4 with h0 | ⟨b', off', he, _, hc'⟩
        · rw [h0] at hv; cases hv
        · injection he with he
          injection he with e1 e2
          subst e1 e2
          have := hc' j v hv
          rwa [Nat.zero_add] at this
      have cs1 : wq.cell? ⟨g4, n1, none⟩ = some (.int .u64 (s : Int)) := c4 _ _ (by
        rw [nsU_cons, nsU_cons, List.getElem?_append_right (by rw [List.length_append, nsU_len]; simp; omega), List.length_append, nsU_len, hn1, hk]; simp)
      have cs2 : wq.cell? ⟨g4, k, none⟩ = some (.int .u64 (s' : Int)) := c4 _ _ (by
        rw [nsU_cons, nsU_cons, List.append_assoc, List.getElem?_append_right (by rw [nsU_len]; omega), nsU_len, hk]; simp)
      have hrow := own_rd ho3
      have h32s : ∀ x ∈ (((s, h) :: (s', h') :: r').map (·.2)).reverse, x.length = 32 := by
        intro x hx
        rw [List.mem_reverse, List.mem_map] at hx
        obtain ⟨q, hq, rfl⟩ := hx
        exact hk2 q hq
      have hlen2 : (((s, h) :: (s', h') :: r').map (·.2)).reverse.length = k + 2 := by simp [hk]
      have ch1 := rd_hash hrow h32s n1 (by omega)
      have ch2 := rd_hash hrow h32s k (by omega)
      have g1 : (((s, h) :: (s', h') :: r').map (·.2)).reverse[n1]'(by omega) = h := by
        rw [List.getElem_reverse]
        simp only [List.length_map, List.length_cons, ← hk, hn1, show k + 1 + 1 - 1 - (k + 1) = 0 by omega]
        rfl
      have g2' : (((s, h) :: (s', h') :: r').map (·.2)).reverse[k]'(by omega) = h' := by
        rw [List.getElem_reverse]
        simp only [List.length_map, List.length_cons, ← hk, show k + 1 + 1 - 1 - k = 1 by omega]
        rfl
      rw [g1] at ch1
      rw [g2'] at ch2
      obtain ⟨_, ch1⟩ := ch1
      obtain ⟨_, ch2⟩ := ch2
      have HF := hid hf
      have HZ3 := hid hz3
      have HK := hid hk
      have HN1 := hid hn1
      have HNK := hid hnk
      have hkn : k < n1 := by omega
      have hnn : n1 < n := by omega
      have hkn2 : k < n := by omega
      have hnn1 : n ≤ n1 + 1 := by omega
      have hnk1 : n1 ≤ k + 1 := by omega
      have HK2 := hid hk2
      clear e3 e4 c4 h32s hlen2 g1 g2' hrow hf hz3 hz2 hk hn1 hnk hrn hk2
      by_cases hss : s = s'
      · subst hss
        have h2s : 2 * s < 18446744073709551616 := by have := HZ3.out; omega
        go_wp2_with fail
        refine wp_flow (by kernel_rfl) [0, 1, 3, 7, 7, 23, 63, 127, 7, 7, 519, 1799, 3847, 8191, 16383] 15 [false, false, false, false, false, false, false, false, false, false, false, false, false, false, false, false, false, false, false, false, false, false, false, false, false, false, false, false, false, false, false, false, true, true, true, true, true, true, true, true, true, true, true, true, true, true, true] (by kernel_rfl) (by decide) (by kernel_rfl) [FP.eq (.int .i64 (n : Int)), FP.eq (.bool true), FP.eq (.bool true), FP.eq (.slice (some ⟨g4, 0, none⟩) n p4), FP.eq (.int .i64 (n : Int)), FP.eq (.int .i64 (n1 : Int)), FP.eq (.pointer (some ⟨g4, n1, none⟩)), FP.eq (.int .u64 (s : Int)), FP.eq (.slice (some ⟨g4, 0, none⟩) n p4), FP.eq (.int .i64 (n : Int)), FP.eq (.int .i64 (k : Int)), FP.eq (.pointer (some ⟨g4, k, none⟩)), FP.eq (.int .u64 (s : Int)), FP.eq (.bool true), FP.eq (.bool true)] ?_ ?_
        · refine allFrom_cons ?_ ?_
          · intro a_ w_ hk_
            have h8 : a_.eval (.tmp 8) = .int .i64 (n : Int) := hk_.old 8 (by kernel_rfl)
            have hx_ := hk_.ext
            clear hk_
            refine flow_plain rfl ?_
            exact gives_move rfl ⟨Below.refl _ _, h8⟩
          refine allFrom_cons ?_ ?_
          · intro a_ w_ hk_
            have h32 : a_.eval (.tmp 32) = (.int .i64 (n : Int)) := hk_.got 0 32 _ (by kernel_rfl) rfl rfl
            have hx_ := hk_.ext
            clear hk_
            refine flow_plain rfl ?_
            unfold gives
            have hc_ : ∀ v, a_.eval (.const v) = v := fun _ => rfl
            have hn_ : ∀ f, a_.eval (.func f) = .func (.func f) #[] #[] := fun _ => rfl
            generalize a_.eval = ρ_ at *
            go_simp
            exact ⟨Below.refl _ _, congrArg Value.bool (decide_eq_true (by omega))⟩
          refine allFrom_cons ?_ ?_
          · intro a_ w_ hk_
            have h33 : a_.eval (.tmp 33) = (.bool true) := hk_.got 1 33 _ (by kernel_rfl) rfl rfl
            have hx_ := hk_.ext
            clear hk_
            refine flow_plain rfl ?_
            exact gives_move rfl ⟨Below.refl _ _, h33⟩
          refine allFrom_cons ?_ ?_
          · intro a_ w_ hk_
            have h6 : a_.eval (.tmp 6) = .slice (some ⟨g4, 0, none⟩) n p4 := hk_.old 6 (by kernel_rfl)
            have hg_ : a_.eval (.tmp 34) = .bool true := hk_.got 2 34 _ (by kernel_rfl) rfl rfl
            have hy_ := hk_.want 2 _ 34 true rfl rfl hg_
            have hx_ := hk_.ext
            clear hk_
            refine flow_want rfl hy_ ?_
            exact gives_move rfl ⟨Below.refl _ _, h6⟩
          refine allFrom_cons ?_ ?_
          · intro a_ w_ hk_
            have h8 : a_.eval (.tmp 8) = .int .i64 (n : Int) := hk_.old 8 (by kernel_rfl)
            have hg_ : a_.eval (.tmp 34) = .bool true := hk_.got 2 34 _ (by kernel_rfl) rfl rfl
            have hy_ := hk_.want 2 _ 34 true rfl rfl hg_
            have hx_ := hk_.ext
            clear hk_
            refine flow_want rfl hy_ ?_
            exact gives_move rfl ⟨Below.refl _ _, h8⟩
          refine allFrom_cons ?_ ?_
          · intro a_ w_ hk_
            have h36 : a_.eval (.tmp 36) = (.int .i64 (n : Int)) := hk_.got 4 36 _ (by kernel_rfl) rfl rfl
            have hg_ : a_.eval (.tmp 34) = .bool true := hk_.got 2 34 _ (by kernel_rfl) rfl rfl
            have hy_ := hk_.want 2 _ 34 true rfl rfl hg_
            have hx_ := hk_.ext
            clear hk_
            refine flow_want rfl hy_ ?_
            unfold gives
            have hc_ : ∀ v, a_.eval (.const v) = v := fun _ => rfl
            have hn_ : ∀ f, a_.eval (.func f) = .func (.func f) #[] #[] := fun _ => rfl
            clear hy_ hg_
            generalize a_.eval = ρ_ at *
            go_simp
            exact ⟨Below.refl _ _, congrArg (Value.int _) ((wr_i64 _ (by omega) (by omega)).trans (by omega))⟩
          refine allFrom_cons ?_ ?_
          · intro a_ w_ hk_
            have h35 : a_.eval (.tmp 35) = (.slice (some ⟨g4, 0, none⟩) n p4) := hk_.got 3 35 _ (by kernel_rfl) rfl rfl
            have h37 : a_.eval (.tmp 37) = (.int .i64 (n1 : Int)) := hk_.got 5 37 _ (by kernel_rfl) rfl rfl
            have hg_ : a_.eval (.tmp 34) = .bool true := hk_.got 2 34 _ (by kernel_rfl) rfl rfl
            have hy_ := hk_.want 2 _ 34 true rfl rfl hg_
            have hx_ := hk_.ext
            clear hk_
            refine flow_want rfl hy_ ?_
            unfold gives
            have hc_ : ∀ v, a_.eval (.const v) = v := fun _ => rfl
            have hn_ : ∀ f, a_.eval (.func f) = .func (.func f) #[] #[] := fun _ => rfl
            clear hy_ hg_
            generalize a_.eval = ρ_ at *
            go_simp
            exact ⟨Below.refl _ _, rfl⟩
          refine allFrom_cons ?_ ?_
          · intro a_ w_ hk_
            have h38 : a_.eval (.tmp 38) = (.pointer (some ⟨g4, n1, none⟩)) := hk_.got 6 38 _ (by kernel_rfl) rfl rfl
            have hg_ : a_.eval (.tmp 34) = .bool true := hk_.got 2 34 _ (by kernel_rfl) rfl rfl
            have hy_ := hk_.want 2 _ 34 true rfl rfl hg_
            have hx_ := hk_.ext
            clear hk_
            refine flow_want rfl hy_ ?_
            unfold gives
            have hc_ : ∀ v, a_.eval (.const v) = v := fun _ => rfl
            have hn_ : ∀ f, a_.eval (.func f) = .func (.func f) #[] #[] := fun _ => rfl
            clear hy_ hg_
            have hcell := (hx_.cell (p := ⟨g4, n1, none⟩) hg4').trans cs1
            generalize a_.eval = ρ_ at *
            go_simp
            exact ⟨Below.refl _ _, rfl⟩
          refine allFrom_cons ?_ ?_
          · intro a_ w_ hk_
            have h6 : a_.eval (.tmp 6) = .slice (some ⟨g4, 0, none⟩) n p4 := hk_.old 6 (by kernel_rfl)
            have hg_ : a_.eval (.tmp 34) = .bool true := hk_.got 2 34 _ (by kernel_rfl) rfl rfl
            have hy_ := hk_.want 2 _ 34 true rfl rfl hg_
            have hx_ := hk_.ext
            clear hk_
            refine flow_want rfl hy_ ?_
            exact gives_move rfl ⟨Below.refl _ _, h6⟩
          refine allFrom_cons ?_ ?_
          · intro a_ w_ hk_
            have h8 : a_.eval (.tmp 8) = .int .i64 (n : Int) := hk_.old 8 (by kernel_rfl)
            have hg_ : a_.eval (.tmp 34) = .bool true := hk_.got 2 34 _ (by kernel_rfl) rfl rfl
            have hy_ := hk_.want 2 _ 34 true rfl rfl hg_
            have hx_ := hk_.ext
            clear hk_
            refine flow_want rfl hy_ ?_
            exact gives_move rfl ⟨Below.refl _ _, h8⟩
          refine allFrom_cons ?_ ?_
          · intro a_ w_ hk_
            have h41 : a_.eval (.tmp 41) = (.int .i64 (n : Int)) := hk_.got 9 41 _ (by kernel_rfl) rfl rfl
            have hg_ : a_.eval (.tmp 34) = .bool true := hk_.got 2 34 _ (by kernel_rfl) rfl rfl
            have hy_ := hk_.want 2 _ 34 true rfl rfl hg_
            have hx_ := hk_.ext
            clear hk_
            refine flow_want rfl hy_ ?_
            unfold gives
            have hc_ : ∀ v, a_.eval (.const v) = v := fun _ => rfl
            have hn_ : ∀ f, a_.eval (.func f) = .func (.func f) #[] #[] := fun _ => rfl
            clear hy_ hg_
            generalize a_.eval = ρ_ at *
            go_simp
            exact ⟨Below.refl _ _, congrArg (Value.int _) ((wr_i64 _ (by omega) (by omega)).trans (by omega))⟩
          refine allFrom_cons ?_ ?_
          · intro a_ w_ hk_
            have h40 : a_.eval (.tmp 40) = (.slice (some ⟨g4, 0, none⟩) n p4) := hk_.got 8 40 _ (by kernel_rfl) rfl rfl
            have h42 : a_.eval (.tmp 42) = (.int .i64 (k : Int)) := hk_.got 10 42 _ (by kernel_rfl) rfl rfl
            have hg_ : a_.eval (.tmp 34) = .bool true := hk_.got 2 34 _ (by kernel_rfl) rfl rfl
            have hy_ := hk_.want 2 _ 34 true rfl rfl hg_
            have hx_ := hk_.ext
            clear hk_
            refine flow_want rfl hy_ ?_
            unfold gives
            have hc_ : ∀ v, a_.eval (.const v) = v := fun _ => rfl
            have hn_ : ∀ f, a_.eval (.func f) = .func (.func f) #[] #[] := fun _ => rfl
            clear hy_ hg_
            generalize a_.eval = ρ_ at *
            go_simp
            exact ⟨Below.refl _ _, rfl⟩
          refine allFrom_cons ?_ ?_
          · intro a_ w_ hk_
            have h43 : a_.eval (.tmp 43) = (.pointer (some ⟨g4, k, none⟩)) := hk_.got 11 43 _ (by kernel_rfl) rfl rfl
            have hg_ : a_.eval (.tmp 34) = .bool true := hk_.got 2 34 _ (by kernel_rfl) rfl rfl
            have hy_ := hk_.want 2 _ 34 true rfl rfl hg_
            have hx_ := hk_.ext
            clear hk_
            refine flow_want rfl hy_ ?_
            unfold gives
            have hc_ : ∀ v, a_.eval (.const v) = v := fun _ => rfl
            have hn_ : ∀ f, a_.eval (.func f) = .func (.func f) #[] #[] := fun _ => rfl
            clear hy_ hg_
            have hcell := (hx_.cell (p := ⟨g4, k, none⟩) hg4').trans cs2
            generalize a_.eval = ρ_ at *
            go_simp
            exact ⟨Below.refl _ _, rfl⟩
          refine allFrom_cons ?_ ?_
          · intro a_ w_ hk_
            have h39 : a_.eval (.tmp 39) = (.int .u64 (s : Int)) := hk_.got 7 39 _ (by kernel_rfl) rfl rfl
            have h44 : a_.eval (.tmp 44) = (.int .u64 (s : Int)) := hk_.got 12 44 _ (by kernel_rfl) rfl rfl
            have hg_ : a_.eval (.tmp 34) = .bool true := hk_.got 2 34 _ (by kernel_rfl) rfl rfl
            have hy_ := hk_.want 2 _ 34 true rfl rfl hg_
            have hx_ := hk_.ext
            clear hk_
            refine flow_want rfl hy_ ?_
            unfold gives
            have hc_ : ∀ v, a_.eval (.const v) = v := fun _ => rfl
            have hn_ : ∀ f, a_.eval (.func f) = .func (.func f) #[] #[] := fun _ => rfl
            clear hy_ hg_
            generalize a_.eval = ρ_ at *
            go_simp
            exact ⟨Below.refl _ _, rfl⟩
          refine allFrom_cons ?_ ?_
          · intro a_ w_ hk_
            have h34 : a_.eval (.tmp 34) = (.bool true) := hk_.got 2 34 _ (by kernel_rfl) rfl rfl
            have h45 : a_.eval (.tmp 45) = (.bool true) := hk_.got 13 45 _ (by kernel_rfl) rfl rfl
            have hx_ := hk_.ext
            clear hk_
            refine flow_plain rfl ?_
            exact gives_pick rfl h34 ⟨Below.refl _ _, h45⟩
          exact allFrom_nil
        intro f_ w_ hx_ hf_
        have h32 : f_ 32 = (.int .i64 (n : Int)) := hf_ 0 32 _ (by decide) rfl rfl
        have h33 : f_ 33 = (.bool true) := hf_ 1 33 _ (by decide) rfl rfl
        have h34 : f_ 34 = (.bool true) := hf_ 2 34 _ (by decide) rfl rfl
        have h35 : f_ 35 = (.slice (some ⟨g4, 0, none⟩) n p4) := hf_ 3 35 _ (by decide) rfl rfl
        have h36 : f_ 36 = (.int .i64 (n : Int)) := hf_ 4 36 _ (by decide) rfl rfl
        have h37 : f_ 37 = (.int .i64 (n1 : Int)) := hf_ 5 37 _ (by decide) rfl rfl
        have h38 : f_ 38 = (.pointer (some ⟨g4, n1, none⟩)) := hf_ 6 38 _ (by decide) rfl rfl
        have h39 : f_ 39 = (.int .u64 (s : Int)) := hf_ 7 39 _ (by decide) rfl rfl
        have h40 : f_ 40 = (.slice (some ⟨g4, 0, none⟩) n p4) := hf_ 8 40 _ (by decide) rfl rfl
        have h41 : f_ 41 = (.int .i64 (n : Int)) := hf_ 9 41 _ (by decide) rfl rfl
        have h42 : f_ 42 = (.int .i64 (k : Int)) := hf_ 10 42 _ (by decide) rfl rfl
        have h43 : f_ 43 = (.pointer (some ⟨g4, k, none⟩)) := hf_ 11 43 _ (by decide) rfl rfl
        have h44 : f_ 44 = (.int .u64 (s : Int)) := hf_ 12 44 _ (by decide) rfl rfl
        have h45 : f_ 45 = (.bool true) := hf_ 13 45 _ (by decide) rfl rfl
        have h46 : f_ 46 = (.bool true) := hf_ 14 46 _ (by decide) rfl rfl
        simp only [mix, List.drop_succ_cons, List.drop_zero, h32, h33, h34, h35, h36, h37, h38, h39, h40, h41, h42, h43, h44, h45, h46]
        clear h32 h33 h34 h35 h36 h37 h38 h39 h40 h41 h42 h43 h44 h45 h46
        clear hf_
        rename World => wa
        have hbA := hbq.trans (hx_.mono hbq.size)
        have cs1a := (hx_.cell (p := ⟨g4, n1, none⟩) hg4').trans cs1
        have ch1a := fun j v hv => (hx_.cell (p := ⟨g3, 0 + n1 * 32 + j, none⟩) hg3').trans (ch1 j v hv)
        have ch2a := fun j v hv => (hx_.cell (p := ⟨g3, 0 + k * 32 + j, none⟩) hg3').trans (ch2 j v hv)
        have ht3a := own_keep ht3 hx_
        have ht4a := own_keep ht4 hx_
        have hg3a : g3 < wa.heap.size := Nat.lt_of_lt_of_le hg3' hx_.size
        have hg4a : g4 < wa.heap.size := Nat.lt_of_lt_of_le hg4' hx_.size
        have hah := aggHL hhl
        have hah' := aggHL hhl'
        clear hx_ hbq ht3 ht4 cs1 cs2 ch1 ch2 ho3 ho4
        have HN2 := hid (fun w' => rNode_any w' hhl' hhl)
        have hX32 := shaL_len (1 :: (h' ++ h))
        obtain ⟨X, hX⟩ : ∃ X, X = shaL (1 :: (h' ++ h)) := ⟨_, rfl⟩
        rw [← hX] at HN2 hX32
        have HX := hid (show X = nodeL h' h from hX)
        clear hX
        have HCH1 := hid ch1a
        have HCH2 := hid ch2a
        have HCS := hid cs1a
        clear ch1a ch2a cs1a
        go_wp2_with fail
        refine wp_flow (by kernel_rfl) [0, 0, 2, 7, 15, 0, 0, 64, 224, 480, 1023, 0, 4095] 12 [false, false, false, false, false, false, false, false, false, true, false, false, false, false, false, false, false, false, false, false, false, false, false, false, false, false, false, false, false, false, false, false, false, false, false, false, false, false, false, false, false, false, false, false, false, false, false, false, false, true, true, true, true, true, true, true, true, true, true, true] (by kernel_rfl) (by decide) (by kernel_rfl) [FP.eq (.slice (some ⟨g3, 0, none⟩) n p3), FP.eq (.int .i64 (n : Int)), FP.eq (.int .i64 (k : Int)), FP.eq (.pointer (some ⟨g3, 0 + k * 32, none⟩)), FP.eq (.agg (h'.map cb).toArray), FP.eq (.slice (some ⟨g3, 0, none⟩) n p3), FP.eq (.int .i64 (n : Int)), FP.eq (.int .i64 (n1 : Int)), FP.eq (.pointer (some ⟨g3, 0 + n1 * 32, none⟩)), FP.eq (.agg (h.map cb).toArray), FP.eq (.agg (X.map cb).toArray), FP.new wa.heap.size 40 (Value.agg (List.replicate 32 (cb 0)).toArray).cells] ?_ ?_
        · refine allFrom_cons ?_ ?_
          · intro a_ w_ hk_
            have h7 : a_.eval (.tmp 7) = .slice (some ⟨g3, 0, none⟩) n p3 := hk_.old 7 (by kernel_rfl)
            have hx_ := hk_.ext
            clear hk_
            refine flow_plain rfl ?_
            exact gives_move rfl ⟨Below.refl _ _, h7⟩
          refine allFrom_cons ?_ ?_
          · intro a_ w_ hk_
            have h8 : a_.eval (.tmp 8) = .int .i64 (n : Int) := hk_.old 8 (by kernel_rfl)
            have hx_ := hk_.ext
            clear hk_
            refine flow_plain rfl ?_
            exact gives_move rfl ⟨Below.refl _ _, h8⟩
          refine allFrom_cons ?_ ?_
          · intro a_ w_ hk_
            have h50 : a_.eval (.tmp 50) = (.int .i64 (n : Int)) := hk_.got 1 50 _ (by kernel_rfl) rfl rfl
            have hx_ := hk_.ext
            clear hk_
            refine flow_plain rfl ?_
            unfold gives
            have hc_ : ∀ v, a_.eval (.const v) = v := fun _ => rfl
            have hn_ : ∀ f, a_.eval (.func f) = .func (.func f) #[] #[] := fun _ => rfl
            generalize a_.eval = ρ_ at *
            go_simp
            exact ⟨Below.refl _ _, congrArg (Value.int _) ((wr_i64 _ (by omega) (by omega)).trans (by omega))⟩
          refine allFrom_cons ?_ ?_
          · intro a_ w_ hk_
            have h49 : a_.eval (.tmp 49) = (.slice (some ⟨g3, 0, none⟩) n p3) := hk_.got 0 49 _ (by kernel_rfl) rfl rfl
            have h51 : a_.eval (.tmp 51) = (.int .i64 (k : Int)) := hk_.got 2 51 _ (by kernel_rfl) rfl rfl
            have hx_ := hk_.ext
            clear hk_
            refine flow_plain rfl ?_
            unfold gives
            have hc_ : ∀ v, a_.eval (.const v) = v := fun _ => rfl
            have hn_ : ∀ f, a_.eval (.func f) = .func (.func f) #[] #[] := fun _ => rfl
            generalize a_.eval = ρ_ at *
            go_simp
            exact ⟨Below.refl _ _, rfl⟩
          refine allFrom_cons ?_ ?_
          · intro a_ w_ hk_
            have h52 : a_.eval (.tmp 52) = (.pointer (some ⟨g3, 0 + k * 32, none⟩)) := hk_.got 3 52 _ (by kernel_rfl) rfl rfl
            have hx_ := hk_.ext
            clear hk_
            refine flow_plain rfl ?_
            exact gives_ldC rfl h52 hah' (fun i v hv => (hx_.cell (p := ⟨g3, 0 + k * 32 + i, none⟩) hg3a).trans (HCH2.out i v hv)) ⟨Below.refl _ _, rfl⟩
          refine allFrom_cons ?_ ?_
          · intro a_ w_ hk_
            have h7 : a_.eval (.tmp 7) = .slice (some ⟨g3, 0, none⟩) n p3 := hk_.old 7 (by kernel_rfl)
            have hx_ := hk_.ext
            clear hk_
            refine flow_plain rfl ?_
            exact gives_move rfl ⟨Below.refl _ _, h7⟩
          refine allFrom_cons ?_ ?_
          · intro a_ w_ hk_
            have h8 : a_.eval (.tmp 8) = .int .i64 (n : Int) := hk_.old 8 (by kernel_rfl)
            have hx_ := hk_.ext
            clear hk_
            refine flow_plain rfl ?_
            exact gives_move rfl ⟨Below.refl _ _, h8⟩
          refine allFrom_cons ?_ ?_
          · intro a_ w_ hk_
            have h55 : a_.eval (.tmp 55) = (.int .i64 (n : Int)) := hk_.got 6 55 _ (by kernel_rfl) rfl rfl
            have hx_ := hk_.ext
            clear hk_
            refine flow_plain rfl ?_
            unfold gives
            have hc_ : ∀ v, a_.eval (.const v) = v := fun _ => rfl
            have hn_ : ∀ f, a_.eval (.func f) = .func (.func f) #[] #[] := fun _ => rfl
            generalize a_.eval = ρ_ at *
            go_simp
            exact ⟨Below.refl _ _, congrArg (Value.int _) ((wr_i64 _ (by omega) (by omega)).trans (by omega))⟩
          refine allFrom_cons ?_ ?_
          · intro a_ w_ hk_
            have h54 : a_.eval (.tmp 54) = (.slice (some ⟨g3, 0, none⟩) n p3) := hk_.got 5 54 _ (by kernel_rfl) rfl rfl
            have h56 : a_.eval (.tmp 56) = (.int .i64 (n1 : Int)) := hk_.got 7 56 _ (by kernel_rfl) rfl rfl
            have hx_ := hk_.ext
            clear hk_
            refine flow_plain rfl ?_
            unfold gives
            have hc_ : ∀ v, a_.eval (.const v) = v := fun _ => rfl
            have hn_ : ∀ f, a_.eval (.func f) = .func (.func f) #[] #[] := fun _ => rfl
            generalize a_.eval = ρ_ at *
            go_simp
            exact ⟨Below.refl _ _, rfl⟩
          refine allFrom_cons ?_ ?_
          · intro a_ w_ hk_
            have h57 : a_.eval (.tmp 57) = (.pointer (some ⟨g3, 0 + n1 * 32, none⟩)) := hk_.got 8 57 _ (by kernel_rfl) rfl rfl
            have hx_ := hk_.ext
            clear hk_
            refine flow_plain rfl ?_
            exact gives_ldC rfl h57 hah (fun i v hv => (hx_.cell (p := ⟨g3, 0 + n1 * 32 + i, none⟩) hg3a).trans (HCH1.out i v hv)) ⟨Below.refl _ _, rfl⟩
          refine allFrom_cons ?_ ?_
          · intro a_ w_ hk_
            have h53 : a_.eval (.tmp 53) = (.agg (h'.map cb).toArray) := hk_.got 4 53 _ (by kernel_rfl) rfl rfl
            have h58 : a_.eval (.tmp 58) = (.agg (h.map cb).toArray) := hk_.got 9 58 _ (by kernel_rfl) rfl rfl
            have hx_ := hk_.ext
            clear hk_
            refine flow_plain rfl ?_
            unfold gives
            have hc_ : ∀ v, a_.eval (.const v) = v := fun _ => rfl
            have hn_ : ∀ f, a_.eval (.func f) = .func (.func f) #[] #[] := fun _ => rfl
            generalize a_.eval = ρ_ at *
            go_simp
            exact (HN2.out w_).mono fun e w' hh => ⟨_, hh.1, hh.2, rfl⟩
          refine allFrom_cons ?_ ?_
          · intro a_ w_ hk_
            have hx_ := hk_.ext
            clear hk_
            refine flow_plain rfl ?_
            exact gives_val (gives_alloc_run _ rfl zeroH) (new_new (Nat.le_trans hx_.size (Nat.le_refl _)))
          exact allFrom_nil
        intro f_ w_ hx_ hf_
        have h49 : f_ 49 = (.slice (some ⟨g3, 0, none⟩) n p3) := hf_ 0 49 _ (by decide) rfl rfl
        have h50 : f_ 50 = (.int .i64 (n : Int)) := hf_ 1 50 _ (by decide) rfl rfl
        have h51 : f_ 51 = (.int .i64 (k : Int)) := hf_ 2 51 _ (by decide) rfl rfl
        have h52 : f_ 52 = (.pointer (some ⟨g3, 0 + k * 32, none⟩)) := hf_ 3 52 _ (by decide) rfl rfl
        have h53 : f_ 53 = (.agg (h'.map cb).toArray) := hf_ 4 53 _ (by decide) rfl rfl
        have h54 : f_ 54 = (.slice (some ⟨g3, 0, none⟩) n p3) := hf_ 5 54 _ (by decide) rfl rfl
        have h55 : f_ 55 = (.int .i64 (n : Int)) := hf_ 6 55 _ (by decide) rfl rfl
        have h56 : f_ 56 = (.int .i64 (n1 : Int)) := hf_ 7 56 _ (by decide) rfl rfl
        have h57 : f_ 57 = (.pointer (some ⟨g3, 0 + n1 * 32, none⟩)) := hf_ 8 57 _ (by decide) rfl rfl
        have h58 : f_ 58 = (.agg (h.map cb).toArray) := hf_ 9 58 _ (by decide) rfl rfl
        have h59 : f_ 59 = (.agg (X.map cb).toArray) := hf_ 10 59 _ (by decide) rfl rfl
        have h9 : (FP.new wa.heap.size 40 (Value.agg (List.replicate 32 (cb 0)).toArray).cells).p (f_ 9) w_ := hf_ 11 9 _ (by decide) rfl rfl
        simp only [mix, List.drop_succ_cons, List.drop_zero, h49, h50, h51, h52, h53, h54, h55, h56, h57, h58, h59]
        clear h49 h50 h51 h52 h53 h54 h55 h56 h57 h58 h59
        clear hf_
        rename World => wb
        obtain ⟨g7, e7, hg7, hz7⟩ := h9
        rw [e7]
        clear e7
        have hbB := hbA.trans (hx_.mono hbA.size)
        have hbw7 : w2.heap.size ≤ g7 := Nat.le_trans hbA.size hg7
        have HCSb := hid ((hx_.cell (p := ⟨g4, n1, none⟩) hg4a).trans HCS.out)
        have ht3b := own_keep ht3a hx_
        have ht4b := own_keep ht4a hx_
        have hg4b : g4 < wb.heap.size := Nat.lt_of_lt_of_le hg4a hx_.size
        have hkp3 : k ≤ p3 := by omega
        have hkp4 : k ≤ p4 := by omega
        have hne37 : g7 ≠ g3 := by omega
        have hne47 : g4 ≠ g7 := by omega
        clear hx_ hbA HCS ht3a ht4a HCH1 HCH2 hah hah' HN2
        go_wp2_with ((with_reducible refine wpAtC ?_); refine wpList_store_agg rfl _ _ _ rfl _ _ rfl (X.map cb).toArray rfl (aggHS hX32) hz7 (szH hX32) (one_cbA X) ?_; intro w13 hp13; simp only [Act.put]; rw [splH hX32] at hp13)
        have hbC := hbB.trans (hp13.below hbw7)
        have HCSc := hid (show w13.cell? ⟨g4, n1, none⟩ = some (.int .u64 (s : Int)) from (cell_of_heap (hp13.oth g4 hne47) n1).trans HCSb.out)
        have ht3c := own_other ht3b hp13 (by simp [Value.ownBlock]; omega)
        have ht4c := own_other ht4b hp13 (by simp [Value.ownBlock]; omega)
        have hx7 := hp13.blk
        have hcx7 := blk_cells hx7
        have hg4c : g4 < w13.heap.size := by rw [hp13.size]; exact hg4b
        have haX := aggHL hX32
        have h63k : k + 1 ≤ maxLen := by unfold maxLen; omega
        have hby3 : (k + 1) * 32 ≤ 140737488355328 := by omega
        have hby4 : (k + 1) * 8 ≤ 140737488355328 := by omega
        have hbs13 := hbC.size
        clear hbB HCSb ht3b ht4b hp13 hz7
        refine wp_flowQ (by kernel_rfl) [0, 0, 2, 7, 0, 16, 63, 127] 6 [false, false, false, false, false, false, false, false, false, false, false, false, false, false, false, false, false, false, false, false, false, false, false, false, false, false, false, false, false, false, false, false, false, false, false, false, false, false, false, false, false, false, false, false, false, false, false, false, false, false, false, false, false, false, false, false, false, false, false, false, true, true, true, true, true, true, true] (by kernel_rfl) (by decide) (by kernel_rfl) [FP.eq (.slice (some ⟨g3, 0, none⟩) n p3), FP.eq (.int .i64 (n : Int)), FP.eq (.int .i64 (k : Int)), FP.eq (.slice (some ⟨g3, 0, none⟩) k p3), FP.eq (.agg (X.map cb).toArray), FP.sl 1 (X.map cb)] (fun v w2' => ∃ w1, Below w13.heap.size w13 w1 ∧ w1.grownBy w2' (some g3) ∧ w2'.ownsRow w2.heap.size 40 32 v (k + 1) (hsU r' ++ X.map cb)) ?_ (q_of rfl ⟨rfl, ?_⟩) ?_
        · refine allFrom_cons (stepQ_yes (by kernel_rfl) ?_) ?_
          · intro a_ w_ hk_
            have h7 : a_.eval (.tmp 7) = .slice (some ⟨g3, 0, none⟩) n p3 := hk_.old 7 (by kernel_rfl)
            have hx_ := hk_.ext
            clear hk_
            refine flow_plain rfl ?_
            exact gives_move rfl ⟨Below.refl _ _, h7⟩
          refine allFrom_cons (stepQ_yes (by kernel_rfl) ?_) ?_
          · intro a_ w_ hk_
            have h8 : a_.eval (.tmp 8) = .int .i64 (n : Int) := hk_.old 8 (by kernel_rfl)
            have hx_ := hk_.ext
            clear hk_
            refine flow_plain rfl ?_
            exact gives_move rfl ⟨Below.refl _ _, h8⟩
          refine allFrom_cons (stepQ_yes (by kernel_rfl) ?_) ?_
          · intro a_ w_ hk_
            have h61 : a_.eval (.tmp 61) = (.int .i64 (n : Int)) := hk_.got 1 61 _ (by kernel_rfl) rfl rfl
            have hx_ := hk_.ext
            clear hk_
            refine flow_plain rfl ?_
            unfold gives
            have hc_ : ∀ v, a_.eval (.const v) = v := fun _ => rfl
            have hn_ : ∀ f, a_.eval (.func f) = .func (.func f) #[] #[] := fun _ => rfl
            generalize a_.eval = ρ_ at *
            go_simp
            exact ⟨Below.refl _ _, congrArg (Value.int _) ((wr_i64 _ (by omega) (by omega)).trans (by omega))⟩
          refine allFrom_cons (stepQ_yes (by kernel_rfl) ?_) ?_
          · intro a_ w_ hk_
            have h60 : a_.eval (.tmp 60) = (.slice (some ⟨g3, 0, none⟩) n p3) := hk_.got 0 60 _ (by kernel_rfl) rfl rfl
            have h62 : a_.eval (.tmp 62) = (.int .i64 (k : Int)) := hk_.got 2 62 _ (by kernel_rfl) rfl rfl
            have hx_ := hk_.ext
            clear hk_
            refine flow_plain rfl ?_
            unfold gives
            have hc_ : ∀ v, a_.eval (.const v) = v := fun _ => rfl
            have hn_ : ∀ f, a_.eval (.func f) = .func (.func f) #[] #[] := fun _ => rfl
            generalize a_.eval = ρ_ at *
            go_simp
            exact ⟨Below.refl _ _, rfl⟩
          refine allFrom_cons (stepQ_yes (by kernel_rfl) ?_) ?_
          · intro a_ w_ hk_
            have h9 : a_.eval (.tmp 9) = .pointer (some ⟨g7, 0, none⟩) := hk_.old 9 (by kernel_rfl)
            have hx_ := hk_.ext
            clear hk_
            refine flow_plain rfl ?_
            exact gives_ldC rfl h9 haX (blk_cells (hx7.below hx_ hx7.lt)) ⟨Below.refl _ _, rfl⟩
          refine allFrom_cons (stepQ_yes (by kernel_rfl) ?_) ?_
          · intro a_ w_ hk_
            have h64 : a_.eval (.tmp 64) = (.agg (X.map cb).toArray) := hk_.got 4 64 _ (by kernel_rfl) rfl rfl
            have hx_ := hk_.ext
            clear hk_
            refine flow_plain rfl ?_
            exact gives_slice1 _ _ rfl _ h64 elHs (cells_cb hX32) (by decide) (slice_hash hX32)
          exact allFrom_nil
        · intro a_ w_ hk_
          have h63 : a_.eval (.tmp 63) = (.slice (some ⟨g3, 0, none⟩) k p3) := hk_.got 3 63 _ (by kernel_rfl) rfl rfl
          have h65 : (FP.sl 1 (X.map cb)).p (a_.eval (.tmp 65)) w_ := hk_.got 5 65 _ (by kernel_rfl) rfl rfl
          have hx_ := hk_.ext
          clear hk_
          obtain ⟨A65, c65, h65, r65⟩ := h65
          refine gives_appK _ _ _ rfl (.slice (some ⟨g3, 0, none⟩) k p3) h63 A65 1 c65 h65 elHs (own_keep ht3c hx_) r65 (len_cb hX32) (one_cb _) h63k hby3 (Nat.le_trans hbs13 hx_.size) fun v' w' hown2 hg2 _ => ?_
          exact ⟨w_, hx_, hg2, hown2⟩
        intro f_ w_ hf_ ht_
        have h60 : f_ 60 = (.slice (some ⟨g3, 0, none⟩) n p3) := (hf_ 0 60 _ (by decide) rfl rfl).elim fun _ h => h
        have h61 : f_ 61 = (.int .i64 (n : Int)) := (hf_ 1 61 _ (by decide) rfl rfl).elim fun _ h => h
        have h62 : f_ 62 = (.int .i64 (k : Int)) := (hf_ 2 62 _ (by decide) rfl rfl).elim fun _ h => h
        have h63 : f_ 63 = (.slice (some ⟨g3, 0, none⟩) k p3) := (hf_ 3 63 _ (by decide) rfl rfl).elim fun _ h => h
        have h64 : f_ 64 = (.agg (X.map cb).toArray) := (hf_ 4 64 _ (by decide) rfl rfl).elim fun _ h => h
        have ht := ht_ 66 _ rfl rfl
        clear ht_
        simp only [mix, List.drop_succ_cons, List.drop_zero, h60, h61, h62, h63, h64]
        clear h60 h61 h62 h63 h64
        clear hf_
        rename World => w14
        obtain ⟨w14', hx14, hg14, hown14⟩ := ht
        obtain ⟨A14, c14, e14, _, _, _⟩ := own_form hown14
        rw [e14] at hown14 ⊢
        clear e14
        have ht3d := own_keep ht3c hx14
        have ht4d := own_keep ht4c hx14
        have ht4e := ht4d.kept hg14 (.inr (by
          have := own_apart ht4d ht3d (by decide)
          rcases this with h0 | h0
          · cases h0
          · exact h0))
        have hbD := own_below (hbC.trans (hx14.mono hbC.size)) ht3d hg14
        have HCSd := hid (show w14.cell? ⟨g4, n1, none⟩ = some (.int .u64 (s : Int)) from (cell_of_heap (hg14.block g4 (Nat.lt_of_lt_of_le hg4c hx14.size) (by
          have := own_apart ht4d ht3d (by decide)
          rcases this with h0 | h0
          · cases h0
          · exact h0)) n1).trans ((hx14.cell (p := ⟨g4, n1, none⟩) hg4c).trans HCSc.out))
        have hg4d : g4 < w14.heap.size := Nat.lt_of_lt_of_le (Nat.lt_of_lt_of_le hg4c hx14.size) hg14.size
        have hbs14 := hbD.size
        have hcons : hsU r' ++ X.map cb = hsU ((2 * s, X) :: r') := (hsU_cons (2 * s, X) r').symm
        rw [hcons] at hown14
        have hconsn : nsU r' ++ [.int .u64 ((2 * s : Nat) : Int)] = nsU ((2 * s, X) :: r') := (nsU_cons (2 * s, X) r').symm
        have HCN := hid hconsn
        clear hcons hconsn ht3c ht4c ht3d ht4d hx14 hg14 hbC HCSc
        go_wp2_with fail
        refine wp_flowQ (by kernel_rfl) [0, 0, 2, 7, 0, 0, 32, 112, 240, 496, 1008, 2047, 4095] 11 [false, false, false, false, false, false, false, false, false, false, false, false, false, false, false, false, false, false, false, false, false, false, false, false, false, false, false, false, false, false, false, false, false, false, false, false, false, false, false, false, false, false, false, false, false, false, false, false, false, false, false, false, false, false, false, false, false, false, false, false, false, false, false, false, false, false, false, true, true, true, true, true, true, true, true, true, true, true, true] (by kernel_rfl) (by decide) (by kernel_rfl) [FP.eq (.slice (some ⟨g4, 0, none⟩) n p4), FP.eq (.int .i64 (n : Int)), FP.eq (.int .i64 (k : Int)), FP.eq (.slice (some ⟨g4, 0, none⟩) k p4), FP.eq (.slice (some ⟨g4, 0, none⟩) n p4), FP.eq (.int .i64 (n : Int)), FP.eq (.int .i64 (n1 : Int)), FP.eq (.pointer (some ⟨g4, n1, none⟩)), FP.eq (.int .u64 (s : Int)), FP.eq (.int .u64 ((2 * s : Nat) : Int)), FP.sl 1 [.int .u64 ((2 * s : Nat) : Int)]] (fun v w2' => ∃ w1, Below w14.heap.size w14 w1 ∧ w1.grownBy w2' (some g4) ∧ w2'.ownsRow w2.heap.size tU 1 v (k + 1) (nsU r' ++ [.int .u64 ((2 * s : Nat) : Int)])) ?_ (q_of rfl ⟨rfl, ?_⟩) ?_
        · refine allFrom_cons (stepQ_yes (by kernel_rfl) ?_) ?_
          · intro a_ w_ hk_
            have h6 : a_.eval (.tmp 6) = .slice (some ⟨g4, 0, none⟩) n p4 := hk_.old 6 (by kernel_rfl)
            have hx_ := hk_.ext
            clear hk_
            refine flow_plain rfl ?_
            exact gives_move rfl ⟨Below.refl _ _, h6⟩
          refine allFrom_cons (stepQ_yes (by kernel_rfl) ?_) ?_
          · intro a_ w_ hk_
            have h8 : a_.eval (.tmp 8) = .int .i64 (n : Int) := hk_.old 8 (by kernel_rfl)
            have hx_ := hk_.ext
            clear hk_
            refine flow_plain rfl ?_
            exact gives_move rfl ⟨Below.refl _ _, h8⟩
          refine allFrom_cons (stepQ_yes (by kernel_rfl) ?_) ?_
          · intro a_ w_ hk_
            have h68 : a_.eval (.tmp 68) = (.int .i64 (n : Int)) := hk_.got 1 68 _ (by kernel_rfl) rfl rfl
            have hx_ := hk_.ext
            clear hk_
            refine flow_plain rfl ?_
            unfold gives
            have hc_ : ∀ v, a_.eval (.const v) = v := fun _ => rfl
            have hn_ : ∀ f, a_.eval (.func f) = .func (.func f) #[] #[] := fun _ => rfl
            generalize a_.eval = ρ_ at *
            go_simp
            exact ⟨Below.refl _ _, congrArg (Value.int _) ((wr_i64 _ (by omega) (by omega)).trans (by omega))⟩
          refine allFrom_cons (stepQ_yes (by kernel_rfl) ?_) ?_
          · intro a_ w_ hk_
            have h67 : a_.eval (.tmp 67) = (.slice (some ⟨g4, 0, none⟩) n p4) := hk_.got 0 67 _ (by kernel_rfl) rfl rfl
            have h69 : a_.eval (.tmp 69) = (.int .i64 (k : Int)) := hk_.got 2 69 _ (by kernel_rfl) rfl rfl
            have hx_ := hk_.ext
            clear hk_
            refine flow_plain rfl ?_
            unfold gives
            have hc_ : ∀ v, a_.eval (.const v) = v := fun _ => rfl
            have hn_ : ∀ f, a_.eval (.func f) = .func (.func f) #[] #[] := fun _ => rfl
            generalize a_.eval = ρ_ at *
            go_simp
            exact ⟨Below.refl _ _, rfl⟩
          refine allFrom_cons (stepQ_yes (by kernel_rfl) ?_) ?_
          · intro a_ w_ hk_
            have h6 : a_.eval (.tmp 6) = .slice (some ⟨g4, 0, none⟩) n p4 := hk_.old 6 (by kernel_rfl)
            have hx_ := hk_.ext
            clear hk_
            refine flow_plain rfl ?_
            exact gives_move rfl ⟨Below.refl _ _, h6⟩
          refine allFrom_cons (stepQ_yes (by kernel_rfl) ?_) ?_
          · intro a_ w_ hk_
            have h8 : a_.eval (.tmp 8) = .int .i64 (n : Int) := hk_.old 8 (by kernel_rfl)
            have hx_ := hk_.ext
            clear hk_
            refine flow_plain rfl ?_
            exact gives_move rfl ⟨Below.refl _ _, h8⟩
          refine allFrom_cons (stepQ_yes (by kernel_rfl) ?_) ?_
          · intro a_ w_ hk_
            have h72 : a_.eval (.tmp 72) = (.int .i64 (n : Int)) := hk_.got 5 72 _ (by kernel_rfl) rfl rfl
            have hx_ := hk_.ext
            clear hk_
            refine flow_plain rfl ?_
            unfold gives
            have hc_ : ∀ v, a_.eval (.const v) = v := fun _ => rfl
            have hn_ : ∀ f, a_.eval (.func f) = .func (.func f) #[] #[] := fun _ => rfl
            generalize a_.eval = ρ_ at *
            go_simp
            exact ⟨Below.refl _ _, congrArg (Value.int _) ((wr_i64 _ (by omega) (by omega)).trans (by omega))⟩
          refine allFrom_cons (stepQ_yes (by kernel_rfl) ?_) ?_
          · intro a_ w_ hk_
            have h71 : a_.eval (.tmp 71) = (.slice (some ⟨g4, 0, none⟩) n p4) := hk_.got 4 71 _ (by kernel_rfl) rfl rfl
            have h73 : a_.eval (.tmp 73) = (.int .i64 (n1 : Int)) := hk_.got 6 73 _ (by kernel_rfl) rfl rfl
            have hx_ := hk_.ext
            clear hk_
            refine flow_plain rfl ?_
            unfold gives
            have hc_ : ∀ v, a_.eval (.const v) = v := fun _ => rfl
            have hn_ : ∀ f, a_.eval (.func f) = .func (.func f) #[] #[] := fun _ => rfl
            generalize a_.eval = ρ_ at *
            go_simp
            exact ⟨Below.refl _ _, rfl⟩
          refine allFrom_cons (stepQ_yes (by kernel_rfl) ?_) ?_
          · intro a_ w_ hk_
            have h74 : a_.eval (.tmp 74) = (.pointer (some ⟨g4, n1, none⟩)) := hk_.got 7 74 _ (by kernel_rfl) rfl rfl
            have hx_ := hk_.ext
            clear hk_
            refine flow_plain rfl ?_
            unfold gives
            have hc_ : ∀ v, a_.eval (.const v) = v := fun _ => rfl
            have hn_ : ∀ f, a_.eval (.func f) = .func (.func f) #[] #[] := fun _ => rfl
            have hcell := (hx_.cell (p := ⟨g4, n1, none⟩) hg4d).trans HCSd.out
            generalize a_.eval = ρ_ at *
            go_simp
            exact ⟨Below.refl _ _, rfl⟩
          refine allFrom_cons (stepQ_yes (by kernel_rfl) ?_) ?_
          · intro a_ w_ hk_
            have h75 : a_.eval (.tmp 75) = (.int .u64 (s : Int)) := hk_.got 8 75 _ (by kernel_rfl) rfl rfl
            have hx_ := hk_.ext
            clear hk_
            refine flow_plain rfl ?_
            unfold gives
            have hc_ : ∀ v, a_.eval (.const v) = v := fun _ => rfl
            have hn_ : ∀ f, a_.eval (.func f) = .func (.func f) #[] #[] := fun _ => rfl
            generalize a_.eval = ρ_ at *
            go_simp
            exact ⟨Below.refl _ _, congrArg (Value.int _) ((wr_u64i _ (by omega) (by omega)).trans (by omega))⟩
          refine allFrom_cons (stepQ_yes (by kernel_rfl) ?_) ?_
          · intro a_ w_ hk_
            have h76 : a_.eval (.tmp 76) = (.int .u64 ((2 * s : Nat) : Int)) := hk_.got 9 76 _ (by kernel_rfl) rfl rfl
            have hx_ := hk_.ext
            clear hk_
            refine flow_plain rfl ?_
            unfold gives
            have hc_ : ∀ v, a_.eval (.const v) = v := fun _ => rfl
            have hn_ : ∀ f, a_.eval (.func f) = .func (.func f) #[] #[] := fun _ => rfl
            generalize a_.eval = ρ_ at *
            go_simp
            exact sl_new rfl
          exact allFrom_nil
        · intro a_ w_ hk_
          have h70 : a_.eval (.tmp 70) = (.slice (some ⟨g4, 0, none⟩) k p4) := hk_.got 3 70 _ (by kernel_rfl) rfl rfl
          have h77 : (FP.sl 1 [.int .u64 ((2 * s : Nat) : Int)]).p (a_.eval (.tmp 77)) w_ := hk_.got 10 77 _ (by kernel_rfl) rfl rfl
          have hx_ := hk_.ext
          clear hk_
          obtain ⟨A77, c77, h77, r77⟩ := h77
          refine gives_appK _ _ _ rfl (.slice (some ⟨g4, 0, none⟩) k p4) h70 A77 1 c77 h77 elU (own_keep ht4e hx_) r77 rfl (one_nsU _ (by intro v hv; simp at hv; exact ⟨_, hv⟩)) h63k hby4 (Nat.le_trans hbs14 hx_.size) fun v' w' hown2 hg2 _ => ?_
          exact ⟨w_, hx_, hg2, hown2⟩
        intro f_ w_ hf_ ht_
        have h67 : f_ 67 = (.slice (some ⟨g4, 0, none⟩) n p4) := (hf_ 0 67 _ (by decide) rfl rfl).elim fun _ h => h
        have h68 : f_ 68 = (.int .i64 (n : Int)) := (hf_ 1 68 _ (by decide) rfl rfl).elim fun _ h => h
        have h69 : f_ 69 = (.int .i64 (k : Int)) := (hf_ 2 69 _ (by decide) rfl rfl).elim fun _ h => h
        have h70 : f_ 70 = (.slice (some ⟨g4, 0, none⟩) k p4) := (hf_ 3 70 _ (by decide) rfl rfl).elim fun _ h => h
        have h71 : f_ 71 = (.slice (some ⟨g4, 0, none⟩) n p4) := (hf_ 4 71 _ (by decide) rfl rfl).elim fun _ h => h
        have h72 : f_ 72 = (.int .i64 (n : Int)) := (hf_ 5 72 _ (by decide) rfl rfl).elim fun _ h => h
        have h73 : f_ 73 = (.int .i64 (n1 : Int)) := (hf_ 6 73 _ (by decide) rfl rfl).elim fun _ h => h
        have h74 : f_ 74 = (.pointer (some ⟨g4, n1, none⟩)) := (hf_ 7 74 _ (by decide) rfl rfl).elim fun _ h => h
        have h75 : f_ 75 = (.int .u64 (s : Int)) := (hf_ 8 75 _ (by decide) rfl rfl).elim fun _ h => h
        have h76 : f_ 76 = (.int .u64 ((2 * s : Nat) : Int)) := (hf_ 9 76 _ (by decide) rfl rfl).elim fun _ h => h
        have ht := ht_ 78 _ rfl rfl
        clear ht_
        simp only [mix, List.drop_succ_cons, List.drop_zero, h67, h68, h69, h70, h71, h72, h73, h74, h75, h76]
        clear h67 h68 h69 h70 h71 h72 h73 h74 h75 h76
        clear hf_
        rename World => w15
        obtain ⟨w15', hx15, hg15, hown15⟩ := ht
        obtain ⟨A15, c15, e15, _, _, _⟩ := own_form hown15
        rw [e15] at hown15 ⊢
        clear e15
        have hown14d := own_keep hown14 hx15
        have ht4f := own_keep ht4e hx15
        have hown14e := hown14d.kept hg15 (own_apart hown14d ht4f (by decide))
        have hbE := own_below (hbD.trans (hx15.mono hbD.size)) ht4f hg15
        rw [HCN.out] at hown15
        clear hown14 hown14d ht4e ht4f hx15 hg15 hbD HCSd HCN
        go_wp2_with fail
        go_roundw
        case rel => exact ⟨(2 * s, X), r', k + 1, by rw [HX.out, ← fin_same]; exact HF.out, by rw [sizeS_cons]; show 2 * s + _ = _; have := HZ3.out; omega, by
          intro q hq
          rcases List.mem_cons.1 hq with rfl | hq
          · exact hX32
          · exact HK2.out q (List.mem_cons_of_mem _ (List.mem_cons_of_mem _ hq)), by rw [HK.out], by omega, by go_num, hown14e, hown15, hbE⟩
        case measure => simp [intOf]; omega
      · go_wp2_with fail
        refine wp_flow (by kernel_rfl) [0, 1, 3, 7, 7, 23, 63, 127, 7, 7, 519, 1799, 3847, 8191, 16383] 15 [false, false, false, false, false, false, false, false, false, false, false, false, false, false, false, false, false, false, false, false, false, false, false, false, false, false, false, false, false, false, false, false, true, true, true, true, true, true, true, true, true, true, true, true, true, true, true] (by kernel_rfl) (by decide) (by kernel_rfl) [FP.eq (.int .i64 (n : Int)), FP.eq (.bool true), FP.eq (.bool true), FP.eq (.slice (some ⟨g4, 0, none⟩) n p4), FP.eq (.int .i64 (n : Int)), FP.eq (.int .i64 (n1 : Int)), FP.eq (.pointer (some ⟨g4, n1, none⟩)), FP.eq (.int .u64 (s : Int)), FP.eq (.slice (some ⟨g4, 0, none⟩) n p4), FP.eq (.int .i64 (n : Int)), FP.eq (.int .i64 (k : Int)), FP.eq (.pointer (some ⟨g4, k, none⟩)), FP.eq (.int .u64 (s' : Int)), FP.eq (.bool false), FP.eq (.bool false)] ?_ ?_
        · refine allFrom_cons ?_ ?_
          · intro a_ w_ hk_
            have h8 : a_.eval (.tmp 8) = .int .i64 (n : Int) := hk_.old 8 (by kernel_rfl)
            have hx_ := hk_.ext
            clear hk_
            refine flow_plain rfl ?_
            exact gives_move rfl ⟨Below.refl _ _, h8⟩
          refine allFrom_cons ?_ ?_
          · intro a_ w_ hk_
            have h32 : a_.eval (.tmp 32) = (.int .i64 (n : Int)) := hk_.got 0 32 _ (by kernel_rfl) rfl rfl
            have hx_ := hk_.ext
            clear hk_
            refine flow_plain rfl ?_
            unfold gives
            have hc_ : ∀ v, a_.eval (.const v) = v := fun _ => rfl
            have hn_ : ∀ f, a_.eval (.func f) = .func (.func f) #[] #[] := fun _ => rfl
            generalize a_.eval = ρ_ at *
            go_simp
            exact ⟨Below.refl _ _, congrArg Value.bool (decide_eq_true (by omega))⟩
          refine allFrom_cons ?_ ?_
          · intro a_ w_ hk_
            have h33 : a_.eval (.tmp 33) = (.bool true) := hk_.got 1 33 _ (by kernel_rfl) rfl rfl
            have hx_ := hk_.ext
            clear hk_
            refine flow_plain rfl ?_
            exact gives_move rfl ⟨Below.refl _ _, h33⟩
          refine allFrom_cons ?_ ?_
          · intro a_ w_ hk_
            have h6 : a_.eval (.tmp 6) = .slice (some ⟨g4, 0, none⟩) n p4 := hk_.old 6 (by kernel_rfl)
            have hg_ : a_.eval (.tmp 34) = .bool true := hk_.got 2 34 _ (by kernel_rfl) rfl rfl
            have hy_ := hk_.want 2 _ 34 true rfl rfl hg_
            have hx_ := hk_.ext
            clear hk_
            refine flow_want rfl hy_ ?_
            exact gives_move rfl ⟨Below.refl _ _, h6⟩
          refine allFrom_cons ?_ ?_
          · intro a_ w_ hk_
            have h8 : a_.eval (.tmp 8) = .int .i64 (n : Int) := hk_.old 8 (by kernel_rfl)
            have hg_ : a_.eval (.tmp 34) = .bool true := hk_.got 2 34 _ (by kernel_rfl) rfl rfl
            have hy_ := hk_.want 2 _ 34 true rfl rfl hg_
            have hx_ := hk_.ext
            clear hk_
            refine flow_want rfl hy_ ?_
            exact gives_move rfl ⟨Below.refl _ _, h8⟩
          refine allFrom_cons ?_ ?_
          · intro a_ w_ hk_
            have h36 : a_.eval (.tmp 36) = (.int .i64 (n : Int)) := hk_.got 4 36 _ (by kernel_rfl) rfl rfl
            have hg_ : a_.eval (.tmp 34) = .bool true := hk_.got 2 34 _ (by kernel_rfl) rfl rfl
            have hy_ := hk_.want 2 _ 34 true rfl rfl hg_
            have hx_ := hk_.ext
            clear hk_
            refine flow_want rfl hy_ ?_
            unfold gives
            have hc_ : ∀ v, a_.eval (.const v) = v := fun _ => rfl
            have hn_ : ∀ f, a_.eval (.func f) = .func (.func f) #[] #[] := fun _ => rfl
            clear hy_ hg_
            generalize a_.eval = ρ_ at *
            go_simp
            exact ⟨Below.refl _ _, congrArg (Value.int _) ((wr_i64 _ (by omega) (by omega)).trans (by omega))⟩
          refine allFrom_cons ?_ ?_
          · intro a_ w_ hk_
            have h35 : a_.eval (.tmp 35) = (.slice (some ⟨g4, 0, none⟩) n p4) := hk_.got 3 35 _ (by kernel_rfl) rfl rfl
            have h37 : a_.eval (.tmp 37) = (.int .i64 (n1 : Int)) := hk_.got 5 37 _ (by kernel_rfl) rfl rfl
            have hg_ : a_.eval (.tmp 34) = .bool true := hk_.got 2 34 _ (by kernel_rfl) rfl rfl
            have hy_ := hk_.want 2 _ 34 true rfl rfl hg_
            have hx_ := hk_.ext
            clear hk_
            refine flow_want rfl hy_ ?_
            unfold gives
            have hc_ : ∀ v, a_.eval (.const v) = v := fun _ => rfl
            have hn_ : ∀ f, a_.eval (.func f) = .func (.func f) #[] #[] := fun _ => rfl
            clear hy_ hg_
            generalize a_.eval = ρ_ at *
            go_simp
            exact ⟨Below.refl _ _, rfl⟩
          refine allFrom_cons ?_ ?_
          · intro a_ w_ hk_
            have h38 : a_.eval (.tmp 38) = (.pointer (some ⟨g4, n1, none⟩)) := hk_.got 6 38 _ (by kernel_rfl) rfl rfl
            have hg_ : a_.eval (.tmp 34) = .bool true := hk_.got 2 34 _ (by kernel_rfl) rfl rfl
            have hy_ := hk_.want 2 _ 34 true rfl rfl hg_
            have hx_ := hk_.ext
            clear hk_
            refine flow_want rfl hy_ ?_
            unfold gives
            have hc_ : ∀ v, a_.eval (.const v) = v := fun _ => rfl
            have hn_ : ∀ f, a_.eval (.func f) = .func (.func f) #[] #[] := fun _ => rfl
            clear hy_ hg_
            have hcell := (hx_.cell (p := ⟨g4, n1, none⟩) hg4').trans cs1
            generalize a_.eval = ρ_ at *
            go_simp
            exact ⟨Below.refl _ _, rfl⟩
          refine allFrom_cons ?_ ?_
          · intro a_ w_ hk_
            have h6 : a_.eval (.tmp 6) = .slice (some ⟨g4, 0, none⟩) n p4 := hk_.old 6 (by kernel_rfl)
            have hg_ : a_.eval (.tmp 34) = .bool true := hk_.got 2 34 _ (by kernel_rfl) rfl rfl
            have hy_ := hk_.want 2 _ 34 true rfl rfl hg_
            have hx_ := hk_.ext
            clear hk_
            refine flow_want rfl hy_ ?_
            exact gives_move rfl ⟨Below.refl _ _, h6⟩
          refine allFrom_cons ?_ ?_
          · intro a_ w_ hk_
            have h8 : a_.eval (.tmp 8) = .int .i64 (n : Int) := hk_.old 8 (by kernel_rfl)
            have hg_ : a_.eval (.tmp 34) = .bool true := hk_.got 2 34 _ (by kernel_rfl) rfl rfl
            have hy_ := hk_.want 2 _ 34 true rfl rfl hg_
            have hx_ := hk_.ext
            clear hk_
            refine flow_want rfl hy_ ?_
            exact gives_move rfl ⟨Below.refl _ _, h8⟩
          refine allFrom_cons ?_ ?_
          · intro a_ w_ hk_
            have h41 : a_.eval (.tmp 41) = (.int .i64 (n : Int)) := hk_.got 9 41 _ (by kernel_rfl) rfl rfl
            have hg_ : a_.eval (.tmp 34) = .bool true := hk_.got 2 34 _ (by kernel_rfl) rfl rfl
            have hy_ := hk_.want 2 _ 34 true rfl rfl hg_
            have hx_ := hk_.ext
            clear hk_
            refine flow_want rfl hy_ ?_
            unfold gives
            have hc_ : ∀ v, a_.eval (.const v) = v := fun _ => rfl
            have hn_ : ∀ f, a_.eval (.func f) = .func (.func f) #[] #[] := fun _ => rfl
            clear hy_ hg_
            generalize a_.eval = ρ_ at *
            go_simp
            exact ⟨Below.refl _ _, congrArg (Value.int _) ((wr_i64 _ (by omega) (by omega)).trans (by omega))⟩
          refine allFrom_cons ?_ ?_
          · intro a_ w_ hk_
            have h40 : a_.eval (.tmp 40) = (.slice (some ⟨g4, 0, none⟩) n p4) := hk_.got 8 40 _ (by kernel_rfl) rfl rfl
            have h42 : a_.eval (.tmp 42) = (.int .i64 (k : Int)) := hk_.got 10 42 _ (by kernel_rfl) rfl rfl
            have hg_ : a_.eval (.tmp 34) = .bool true := hk_.got 2 34 _ (by kernel_rfl) rfl rfl
            have hy_ := hk_.want 2 _ 34 true rfl rfl hg_
            have hx_ := hk_.ext
            clear hk_
            refine flow_want rfl hy_ ?_
            unfold gives
            have hc_ : ∀ v, a_.eval (.const v) = v := fun _ => rfl
            have hn_ : ∀ f, a_.eval (.func f) = .func (.func f) #[] #[] := fun _ => rfl
            clear hy_ hg_
            generalize a_.eval = ρ_ at *
            go_simp
            exact ⟨Below.refl _ _, rfl⟩
          refine allFrom_cons ?_ ?_
          · intro a_ w_ hk_
            have h43 : a_.eval (.tmp 43) = (.pointer (some ⟨g4, k, none⟩)) := hk_.got 11 43 _ (by kernel_rfl) rfl rfl
            have hg_ : a_.eval (.tmp 34) = .bool true := hk_.got 2 34 _ (by kernel_rfl) rfl rfl
            have hy_ := hk_.want 2 _ 34 true rfl rfl hg_
            have hx_ := hk_.ext
            clear hk_
            refine flow_want rfl hy_ ?_
            unfold gives
            have hc_ : ∀ v, a_.eval (.const v) = v := fun _ => rfl
            have hn_ : ∀ f, a_.eval (.func f) = .func (.func f) #[] #[] := fun _ => rfl
            clear hy_ hg_
            have hcell := (hx_.cell (p := ⟨g4, k, none⟩) hg4').trans cs2
            generalize a_.eval = ρ_ at *
            go_simp
            exact ⟨Below.refl _ _, rfl⟩
          refine allFrom_cons ?_ ?_
          · intro a_ w_ hk_
            have h39 : a_.eval (.tmp 39) = (.int .u64 (s : Int)) := hk_.got 7 39 _ (by kernel_rfl) rfl rfl
            have h44 : a_.eval (.tmp 44) = (.int .u64 (s' : Int)) := hk_.got 12 44 _ (by kernel_rfl) rfl rfl
            have hg_ : a_.eval (.tmp 34) = .bool true := hk_.got 2 34 _ (by kernel_rfl) rfl rfl
            have hy_ := hk_.want 2 _ 34 true rfl rfl hg_
            have hx_ := hk_.ext
            clear hk_
            refine flow_want rfl hy_ ?_
            unfold gives
            have hc_ : ∀ v, a_.eval (.const v) = v := fun _ => rfl
            have hn_ : ∀ f, a_.eval (.func f) = .func (.func f) #[] #[] := fun _ => rfl
            clear hy_ hg_
            generalize a_.eval = ρ_ at *
            go_simp
            exact ⟨Below.refl _ _, congrArg Value.bool (decide_eq_false (by omega))⟩
          refine allFrom_cons ?_ ?_
          · intro a_ w_ hk_
            have h34 : a_.eval (.tmp 34) = (.bool true) := hk_.got 2 34 _ (by kernel_rfl) rfl rfl
            have h45 : a_.eval (.tmp 45) = (.bool false) := hk_.got 13 45 _ (by kernel_rfl) rfl rfl
            have hx_ := hk_.ext
            clear hk_
            refine flow_plain rfl ?_
            exact gives_pick rfl h34 ⟨Below.refl _ _, h45⟩
          exact allFrom_nil
        intro f_ w_ hx_ hf_
        have h32 : f_ 32 = (.int .i64 (n : Int)) := hf_ 0 32 _ (by decide) rfl rfl
        have h33 : f_ 33 = (.bool true) := hf_ 1 33 _ (by decide) rfl rfl
        have h34 : f_ 34 = (.bool true) := hf_ 2 34 _ (by decide) rfl rfl
        have h35 : f_ 35 = (.slice (some ⟨g4, 0, none⟩) n p4) := hf_ 3 35 _ (by decide) rfl rfl
        have h36 : f_ 36 = (.int .i64 (n : Int)) := hf_ 4 36 _ (by decide) rfl rfl
        have h37 : f_ 37 = (.int .i64 (n1 : Int)) := hf_ 5 37 _ (by decide) rfl rfl
        have h38 : f_ 38 = (.pointer (some ⟨g4, n1, none⟩)) := hf_ 6 38 _ (by decide) rfl rfl
        have h39 : f_ 39 = (.int .u64 (s : Int)) := hf_ 7 39 _ (by decide) rfl rfl
        have h40 : f_ 40 = (.slice (some ⟨g4, 0, none⟩) n p4) := hf_ 8 40 _ (by decide) rfl rfl
        have h41 : f_ 41 = (.int .i64 (n : Int)) := hf_ 9 41 _ (by decide) rfl rfl
        have h42 : f_ 42 = (.int .i64 (k : Int)) := hf_ 10 42 _ (by decide) rfl rfl
        have h43 : f_ 43 = (.pointer (some ⟨g4, k, none⟩)) := hf_ 11 43 _ (by decide) rfl rfl
        have h44 : f_ 44 = (.int .u64 (s' : Int)) := hf_ 12 44 _ (by decide) rfl rfl
        have h45 : f_ 45 = (.bool false) := hf_ 13 45 _ (by decide) rfl rfl
        have h46 : f_ 46 = (.bool false) := hf_ 14 46 _ (by decide) rfl rfl
        simp only [mix, List.drop_succ_cons, List.drop_zero, h32, h33, h34, h35, h36, h37, h38, h39, h40, h41, h42, h43, h44, h45, h46]
        clear h32 h33 h34 h35 h36 h37 h38 h39 h40 h41 h42 h43 h44 h45 h46
        clear hf_
        have hbF := hbq.trans (hx_.mono hbq.size)
        have hzF := hzr.below hbF hzr.lt
        have c0F := (hbF.cell (p := ⟨gB, 0, none⟩) hgB).trans c00
        have ho3F := own_keep ho3 hx_
        have ho4F := own_keep ho4 hx_
        have HO3 := hid ho3F
        have HO4 := hid ho4F
        clear ho3F ho4F ho3 ho4 hx_ hbq
        go_wp2_with ((with_reducible refine wpAtC ?_); refine wpList_store_agg rfl _ _ _ rfl _ _ rfl (fcs (N + 1) (some ⟨g4, 0, none⟩) n p4 (some ⟨g3, 0, none⟩) n p3).toArray rfl (aggFS _ _ _ _ _ _ _) hzF (szF rfl rfl) (oneF _ _ _ _ _ _ _) ?_; intro wF hpF; simp only [Act.put]; rw [splF rfl rfl] at hpF)
        have hn3 := own_ne HO3.out hzF (fun cur hx => by cases hx)
        have hn4 := own_ne HO4.out hzF (fun cur hx => by cases hx)
        refine bodyPost_ret (results_agg2 (cs := fcs (N + 1) (some ⟨g4, 0, none⟩) n p4 (some ⟨g3, 0, none⟩) n p3) rfl rfl (aggF _ _ _ _ _ _ _) (blk_cells hpF.blk)) rfl ?_
        exact ⟨n, _, _, _, _, rfl, by rw [HZL.out, ← HF.out, fin_less _ _ _ hss, List.length_cons, List.length_cons, ← HK.out, ← HNK.out], own_more (by rw [HZN.out, ← HF.out, fin_less _ _ _ hss]; exact own_other HO4.out hpF hn4) hw2, own_more (by rw [HZH.out, ← HF.out, fin_less _ _ _ hss]; exact own_other HO3.out hpF hn3) hw2, bx_put (hbw2.trans (hbF.mono hw2)) hpF hgrw⟩
set_option linter.unusedVariables false
def sv (l : List UInt8) : Value := .string ⟨l.toArray⟩
theorem convBS {w : World} {B : Nat} {A : Option Addr} {l : List UInt8} (c : Nat) (hr : Rd w B A (l.map cb)) : (convert 44 9 (.slice A l.length c)).run Tryd.prog w = .ok (.string ⟨l.toArray⟩) w :=
  conv_str Tryd.underlying44 Tryd.underlying5 Tryd.underlying9 c hr
theorem ones_ne : ∀ m n : Nat, n ≤ m → n ≠ 0 → ones n ≠ 0 := by
  intro m
  induction m with
  | zero => intro n h1 h2; omega
  | succ m ih =>
    intro n h1 h2 h3
    have := ones_eq n
    by_cases h4 : n / 2 = 0
    · omega
    · have := ih (n / 2) (by omega) h4
      omega
/-- The document's frontier as cells: of so many, of these peaks; where its rows lie. -/
def IsC (w : World) (B N : Nat) (st : List (List UInt8)) (g : Nat) (own : Option Nat) (cs : List Value) : Prop :=
  ∃ A1 m k1 A2 k2, cs = fcs N A1 m k1 A2 m k2 ∧ st.length = m ∧ m ≤ k2 ∧ w.ownsRow B tU 1 (.slice A1 m k1) m ((partsR 1 N).reverse.map un) ∧ Rd w w.heap.size A2 (st.reverse.flatten.map cb) ∧ (st ≠ [] → ∀ a, A2 = some a → a.block ≠ g ∧ own ≠ some a.block ∧ (a.block < B ∨ ∃ c fz, w.heap[a.block]? = some (.cells c tHa fz)))
theorem IsC.below {w w' : World} {B N : Nat} {st : List (List UInt8)} {g : Nat} {own : Option Nat} {cs : List Value} (h : IsC w B N st g own cs) (hb : Below w.heap.size w w') : IsC w' B N st g own cs := by
  obtain ⟨A1, m, k1, A2, k2, h1, h2, h3, h4, h5, h6⟩ := h
  exact ⟨A1, m, k1, A2, k2, h1, h2, h3, own_keep h4 hb, (h5.below hb).more hb.size, fun hne a ha => by
    obtain ⟨q1, q2, q3⟩ := h6 hne a ha
    refine ⟨q1, q2, q3.imp id ?_⟩
    rintro ⟨c, fz, hc⟩
    exact ⟨c, fz, (hb.block _ (Array.getElem?_eq_some_iff.1 hc).1).trans hc⟩⟩
theorem IsC.agg {w : World} {B N : Nat} {st : List (List UInt8)} {g : Nat} {own : Option Nat} {cs : List Value} (h : IsC w B N st g own cs) : cs.length = 3 ∧ AggT Tryd.prog tFv cs.length ∧ AggT Tryd.prog tFv cs.toArray.size ∧ ∀ v ∈ cs.toArray.toList, v.oneCell' = true := by
  obtain ⟨A1, m, k1, A2, k2, rfl, _⟩ := h
  exact ⟨rfl, aggF _ _ _ _ _ _ _, aggFS _ _ _ _ _ _ _, oneF _ _ _ _ _ _ _⟩
/-- A put into a block of another kind. -/
theorem IsC.put {w w1 : World} {B N : Nat} {st : List (List UInt8)} {g : Nat} {own : Option Nat} {cs : List Value} (h : IsC w B N st g own cs) {gp : Nat} {c0 c1 : Array Value} (hb : Blk w gp tFv c0) (hp : Put w w1 gp tFv c1) (hB : B ≤ gp) : IsC w1 B N st g own cs := by
  obtain ⟨A1, m, k1, A2, k2, h1, h2, h3, h4, h5, h6⟩ := h
  have key : st ≠ [] → ∀ a, A2 = some a → a.block ≠ gp := fun hne a ha => by
    obtain ⟨_, _, q3⟩ := h6 hne a ha
    rcases q3 with q3 | ⟨c, fz, hc⟩
    · omega
    · intro e
      subst e
      unfold Blk at hb
      rw [hb] at hc
      injection hc with hc
      injection hc with _ hc
      exact absurd hc (by decide)
  refine ⟨A1, m, k1, A2, k2, h1, h2, h3, own_other h4 hp (own_ne h4 hb (fun cur hx => by cases hx)), ?_, fun hne a ha => ?_⟩
  · rcases h5 with h5 | ⟨b, off, rfl, hlt, hc⟩
    · exact .inl h5
    · by_cases hne : st = []
      · left; rw [hne]; rfl
      · exact .inr ⟨b, off, rfl, by rw [hp.size]; exact hlt, fun i v hv => (cell_of_heap (hp.oth b (key hne _ rfl)) (off + i)).trans (hc i v hv)⟩
  · obtain ⟨q1, q2, q3⟩ := h6 hne a ha
    refine ⟨q1, q2, q3.imp id ?_⟩
    rintro ⟨c, fz, hc⟩
    exact ⟨c, fz, (hp.oth _ (key hne a ha)).trans hc⟩
/-- Behind a call on the frontier at g. -/
theorem IsC.go {w w' : World} {B B' n n' : Nat} {g : Nat} {st0 st0' : List (List UInt8)} {A A' : Option Addr} {c c' : Nat} (hgo : FGo w w' B' g n st0 A c n' st0' A' c') (hF : IsF w B' g n st0 A c) {N : Nat} {st : List (List UInt8)} {cs : List Value} (h : IsC w B N st g (Value.slice A st0.length c).ownBlock cs) (hs : w.heap.size ≤ w'.heap.size) (h32 : ∀ p ∈ st, p.length = 32) : IsC w' B N st g (Value.slice A' st0'.length c').ownBlock cs := by
  obtain ⟨A1, m, k1, A2, k2, h1, h2, h3, h4, h5, h6⟩ := h
  have key : st ≠ [] → ∀ a, A2 = some a → a.block < w.heap.size ∧ w'.heap[a.block]? = w.heap[a.block]? ∧ (Value.slice A' st0'.length c').ownBlock ≠ some a.block := fun hne a ha => by
    obtain ⟨q1, q2, _⟩ := h6 hne a ha
    have hlt : a.block < w.heap.size := by
      rcases h5 with h5 | ⟨b, off, e, hlt, _⟩
      · exfalso
        apply hne
        have hl := congrArg List.length h5
        rw [List.length_map, hs_len (fun q hq => h32 q (List.mem_reverse.1 hq)), List.length_reverse, List.length_nil] at hl
        exact List.eq_nil_of_length_eq_zero (by omega)
      · rw [ha] at e
        injection e with e
        subst e
        exact hlt
    exact ⟨hlt, hgo.keep _ hlt q1 q2⟩
  refine ⟨A1, m, k1, A2, k2, h1, h2, h3, own_go hgo hF h4 (by decide) (by decide), ?_, fun hne a ha => ?_⟩
  · rcases h5 with h5 | ⟨b, off, rfl, hlt, hc⟩
    · exact .inl h5
    · by_cases hne : st = []
      · left; rw [hne]; rfl
      · exact .inr ⟨b, off, rfl, Nat.lt_of_lt_of_le hlt hs, fun i v hv => (cell_of_heap (key hne _ rfl).2.1 (off + i)).trans (hc i v hv)⟩
  · obtain ⟨q1, _, q3⟩ := h6 hne a ha
    obtain ⟨k1, k2, k3⟩ := key hne a ha
    refine ⟨q1, k3, q3.imp id ?_⟩
    rintro ⟨c, fz, hc⟩
    exact ⟨c, fz, k2.trans hc⟩
theorem same_eq (w : World) {A1 A2 : Option Addr} {c1 c2 m : Nat} {P : List (List UInt8)} (hm : P.length = m) (hP : ∀ x ∈ P, x.length = 32) (hr1 : Rd w w.heap.size A1 (P.flatten.map cb)) (hr2 : Rd w w.heap.size A2 (P.flatten.map cb)) (hl : m ≤ 1000000) :
    Calls Tryd.prog 14 #[.slice A1 m c1, .slice A2 m c2] w fun e w' => e = .returned (.bool true) ∧ Below w.heap.size w w' := by
  subst hm
  have := same_any w (c1 := c1) (c2 := c2) hP hP hr1 hr2 hl hl
  rw [decide_eq_true rfl] at this
  exact this
theorem rFRoot_any (w : World) (N : Nat) (hN : N < 18446744073709551616) (A1 : Option Addr) (k1 : Nat) (A2 : Option Addr) (m k2 : Nat) {st : List (List UInt8)} (h32 : ∀ q ∈ st, q.length = 32) (hm : st.length = m) (hon : st.length = ones N) (hr : Rd w w.heap.size A2 (st.reverse.flatten.map cb)) :
    Calls Tryd.prog 17 #[.agg (fcs N A1 m k1 A2 m k2).toArray] w fun e w' => e = .returned (.agg ((froot st).map cb).toArray) ∧ Below w.heap.size w w' := by
  have h64 := ones_le 64 N hN
  by_cases h0 : N = 0
  · subst h0
    have hs : st = [] := List.eq_nil_of_length_eq_zero (by rw [hon, ones_zero])
    subst hs
    exact rFRoot_zero w A1 m k1 A2 m k2
  · cases st with
    | nil => exact absurd hon.symm (ones_ne N N (Nat.le_refl _) h0)
    | cons p r => exact rFRoot_some w N h0 hN A1 m k1 A2 m k2 p r h32 hm (by omega) hr
/-- A round's last drawn region: what memory is. -/
def K17 (wb : World) (B N : Nat) (st : List (List UInt8)) (g : Nat) (own : Option Nat) (e : Int) : List (Option Value) → World → Prop
  | [k6, k7, k8, k10, k11], w' => Below wb.heap.size wb w' ∧ (k11 = none → (∀ v, k6 = some v → ∃ cs : List Value, v = .tuple #[.agg cs.toArray, .int .i64 e] ∧ IsC w' B N st g own cs) ∧ (∀ v, k7 = some v → ∃ cs : List Value, v = .tuple #[.agg cs.toArray, .int .i64 e] ∧ IsC w' B N st g own cs) ∧ (∀ v, k8 = some v → ∃ cs : List Value, v = .agg cs.toArray ∧ IsC w' B N st g own cs)) ∧
      (∀ v, k10 = some v → ∃ gp, v = .pointer (some ⟨gp, 0, none⟩) ∧ wb.heap.size ≤ gp ∧ (k11 = none → Blk w' gp tFv (Value.agg (fcs 0 none 0 0 none 0 0).toArray).cells) ∧ (k11 ≠ none → ∃ cs : List Value, IsC w' B N st g own cs ∧ Blk w' gp tFv cs.toArray))
  | _, _ => True
theorem K17.start {wb : World} {B N : Nat} {st : List (List UInt8)} {g : Nat} {own : Option Nat} {e : Int} : K17 wb B N st g own e [none, none, none, none, none] wb.drew := ⟨(Below.refl _ wb).drew, fun _ => ⟨(fun v h => by cases h), (fun v h => by cases h), (fun v h => by cases h)⟩, (fun v h => by cases h)⟩
theorem K17.six {wb w w' : World} {B N : Nat} {st : List (List UInt8)} {g : Nat} {own : Option Nat} {e : Int} {k10 : Option Value} (h : K17 wb B N st g own e [none, none, none, k10, none] w) (hb : Below w.heap.size w w') {cs : List Value} (hc : IsC w' B N st g own cs) : K17 wb B N st g own e [some (.tuple #[.agg cs.toArray, .int .i64 e]), none, none, k10, none] w' := by
  obtain ⟨h1, _, h3⟩ := h
  refine ⟨bx_trans h1 hb, fun _ => ⟨fun v hv => by injection hv with hv; exact ⟨cs, hv.symm, hc⟩, (fun v h => by cases h), (fun v h => by cases h)⟩, fun v hv => ?_⟩
  obtain ⟨gp, q1, q2, q3, _⟩ := h3 v hv
  exact ⟨gp, q1, q2, fun _ => (q3 rfl).below hb (q3 rfl).lt, fun hx => absurd rfl hx⟩
theorem K17.seven {wb w : World} {B N : Nat} {st : List (List UInt8)} {g : Nat} {own : Option Nat} {e : Int} {k10 : Option Value} {v6 : Value} (h : K17 wb B N st g own e [some v6, none, none, k10, none] w) : K17 wb B N st g own e [some v6, some v6, none, k10, none] w := by
  obtain ⟨h1, h2, h3⟩ := h
  exact ⟨h1, fun hx => ⟨(h2 hx).1, (h2 hx).1, (fun v h => by cases h)⟩, h3⟩
theorem K17.at7 {wb w : World} {B N : Nat} {st : List (List UInt8)} {g : Nat} {own : Option Nat} {e : Int} {k10 k8 : Option Value} {v6 v7 : Value} (h : K17 wb B N st g own e [some v6, some v7, k8, k10, none] w) : ∃ cs : List Value, v7 = .tuple #[.agg cs.toArray, .int .i64 e] ∧ IsC w B N st g own cs := (h.2.1 rfl).2.1 _ rfl
theorem K17.eight {wb w : World} {B N : Nat} {st : List (List UInt8)} {g : Nat} {own : Option Nat} {e : Int} {k10 : Option Value} {v6 v7 : Value} (h : K17 wb B N st g own e [some v6, some v7, none, k10, none] w) {cs : List Value} (hc : IsC w B N st g own cs) : K17 wb B N st g own e [some v6, some v7, some (.agg cs.toArray), k10, none] w := by
  obtain ⟨h1, h2, h3⟩ := h
  exact ⟨h1, fun hx => ⟨(h2 hx).1, (h2 hx).2.1, fun v hv => by injection hv with hv; exact ⟨cs, hv.symm, hc⟩⟩, h3⟩
theorem K17.ten {wb w : World} {B N : Nat} {st : List (List UInt8)} {g : Nat} {own : Option Nat} {e : Int} {k6 k7 k8 : Option Value} (h : K17 wb B N st g own e [k6, k7, k8, none, none] w) : K17 wb B N st g own e [k6, k7, k8, some (.pointer (some ⟨w.heap.size, 0, none⟩)), none] (w.alloc (.cells (Value.agg (fcs 0 none 0 0 none 0 0).toArray).cells tFv)) := by
  obtain ⟨h1, h2, _⟩ := h
  have hb : Below w.heap.size w (w.alloc (.cells (Value.agg (fcs 0 none 0 0 none 0 0).toArray).cells tFv)) := bx_alloc (Below.refl _ _) _
  refine ⟨bx_trans h1 hb, fun hx => ⟨fun v hv => ?_, fun v hv => ?_, fun v hv => ?_⟩, fun v hv => ?_⟩
  · obtain ⟨cs, q1, q2⟩ := (h2 hx).1 v hv; exact ⟨cs, q1, q2.below hb⟩
  · obtain ⟨cs, q1, q2⟩ := (h2 hx).2.1 v hv; exact ⟨cs, q1, q2.below hb⟩
  · obtain ⟨cs, q1, q2⟩ := (h2 hx).2.2 v hv; exact ⟨cs, q1, q2.below hb⟩
  · injection hv with hv
    exact ⟨_, hv.symm, h1.size, fun _ => Blk.new _ _ _, fun hx => absurd rfl hx⟩
theorem K17.at8 {wb w : World} {B N : Nat} {st : List (List UInt8)} {g : Nat} {own : Option Nat} {e : Int} {k10 : Option Value} {v6 v7 v8 : Value} (h : K17 wb B N st g own e [some v6, some v7, some v8, k10, none] w) : ∃ cs : List Value, v8 = .agg cs.toArray ∧ IsC w B N st g own cs := (h.2.1 rfl).2.2 _ rfl
theorem K17.at10 {wb w : World} {B N : Nat} {st : List (List UInt8)} {g : Nat} {own : Option Nat} {e : Int} {k6 k7 k8 : Option Value} {v10 : Value} (h : K17 wb B N st g own e [k6, k7, k8, some v10, none] w) : ∃ gp, v10 = .pointer (some ⟨gp, 0, none⟩) ∧ wb.heap.size ≤ gp ∧ Blk w gp tFv (Value.agg (fcs 0 none 0 0 none 0 0).toArray).cells := by
  obtain ⟨gp, q1, q2, q3, _⟩ := h.2.2 _ rfl
  exact ⟨gp, q1, q2, q3 rfl⟩
theorem K17.eleven {wb w w1 : World} {B N : Nat} {st : List (List UInt8)} {g : Nat} {own : Option Nat} {e : Int} {k6 k7 k8 : Option Value} {gp : Nat} {u : Value} (h : K17 wb B N st g own e [k6, k7, k8, some (.pointer (some ⟨gp, 0, none⟩)), none] w) (hg : wb.heap.size ≤ gp) {cs : List Value} (hc : IsC w B N st g own cs) (hb : Blk w gp tFv (Value.agg (fcs 0 none 0 0 none 0 0).toArray).cells) (hp : Put w w1 gp tFv cs.toArray) (hB : B ≤ gp) : K17 wb B N st g own e [k6, k7, k8, some (.pointer (some ⟨gp, 0, none⟩)), some u] w1 := by
  obtain ⟨h1, h2, h3⟩ := h
  refine ⟨h1.trans (hp.below hg), fun hx => (by cases hx), fun v hv => ?_⟩
  injection hv with hv
  exact ⟨gp, hv.symm, hg, fun hx => (by cases hx), fun _ => ⟨cs, hc.put hb hp hB, hp.blk⟩⟩
theorem K17.done {wb w : World} {B N : Nat} {st : List (List UInt8)} {g : Nat} {own : Option Nat} {e : Int} {k6 k7 k8 : Option Value} {v10 u : Value} (h : K17 wb B N st g own e [k6, k7, k8, some v10, some u] w) : Below wb.heap.size wb w ∧ ∃ gp cs, v10 = .pointer (some ⟨gp, 0, none⟩) ∧ wb.heap.size ≤ gp ∧ IsC w B N st g own cs ∧ Blk w gp tFv cs.toArray := by
  obtain ⟨h1, _, h3⟩ := h
  obtain ⟨gp, q1, q2, _, q4⟩ := h3 _ rfl
  obtain ⟨cs, q5, q6⟩ := q4 (by intro hx; cases hx)
  exact ⟨h1, gp, cs, q1, q2, q5, q6⟩
def KP.tup (e : Int) : KP := fun v => ∃ u, v = .tuple #[u, .int .i64 e]
theorem gives_ext {P : Program} {o : Oper} {a : Act} {w : World} {S : Value → World → Prop} {x : Operand} {i : Nat} (ho : o.op = .extract x i) {us : Array Value} (hx : a.eval x = .tuple us) {u : Value} (hu : us[i]? = some u) (h : S u w) : gives P o a w S := by
  unfold gives execOp
  rw [ho]
  simp only [hx]
  simp only [Instr.extract, hu, Sem.run_bind, Sem.run_pure, Result.andThen_ok]
  exact h
theorem IsF.put {w w1 : World} {B g n : Nat} {st : List (List UInt8)} {A : Option Addr} {c : Nat} (h : IsF w B g n st A c) {gp : Nat} {c0 c1 : Array Value} (hb : Blk w gp tFv c0) (hp : Put w w1 gp tFv c1) : IsF w1 B g n st A c := by
  have hne : g ≠ gp := by
    intro e
    subst e
    have h1 := h.blk
    unfold Blk at h1 hb
    rw [hb] at h1
    injection h1 with h1
    injection h1 with _ h1
    exact absurd h1 (by decide)
  exact ⟨(hp.oth g hne).trans h.blk, own_other h.own hp (own_ne h.own hb (fun cur hx => by cases hx)), h.gB, h.ok⟩
theorem IsC.ofAdd {w' : World} {b B N g m' k1 k2 : Nat} {st : List (List UInt8)} {own : Option Nat} {A1 A2 : Option Addr} (hm : m' = st.length) (h1 : w'.ownsRow b tU 1 (.slice A1 m' k1) m' ((partsR 1 N).reverse.map un)) (h2 : w'.ownsRow b tHa 32 (.slice A2 m' k2) m' (st.reverse.flatten.map cb)) (hB : B ≤ b) (hg : g < b) (ho : ∀ k, own = some k → k < b) : IsC w' B N st g own (fcs N A1 m' k1 A2 m' k2) := by
  obtain ⟨A, c, e, q1, q2, q3⟩ := own_form h2
  injection e with e1 e2 e3
  subst e1
  subst e3
  refine ⟨A1, m', k1, A2, k2, rfl, hm.symm, q1, own_more h1 hB, q3, fun _ a ha => ?_⟩
  subst ha
  rcases h2.2 with ⟨e, _⟩ | ⟨g', cap, cur, e, hb, hh, _⟩
  · cases e
  · injection e with e1 e2 e3
    injection e1 with e1
    subst e1
    refine ⟨?_, fun e => ?_, .inr ⟨_, _, hh⟩⟩
    · show g' ≠ g
      omega
    · have := ho _ e
      change g' < b at this
      omega
theorem FGo.same {w : World} {B g n : Nat} {st : List (List UInt8)} {A : Option Addr} {c : Nat} (h : IsF w B g n st A c) : FGo w w B g n st A c n st A c := ⟨h, Below.refl _ _, fun k _ _ h2 => ⟨rfl, h2⟩⟩
/-- Both Adds, of any frontier: the document's one and the program's one. -/
theorem pl_add {w : World} (hL : Laid w) {B g N : Nat} {st : List (List UInt8)} {A : Option Addr} {c : Nat} {cs : List Value} {wb : World} (hN : N < 18446744073709551616) (hF : IsF wb B g N st A c) (hon : st.length = ones N) (hC : IsC wb w.heap.size N st g (Value.slice A st.length c).ownBlock cs) (hbr : Below w.heap.size w wb) (hBw : w.heap.size ≤ B)
    {Ae : Option Addr} {ce : Nat} {en : List UInt8} (hr : Rd w w.heap.size Ae (en.map cb)) (hce : en.length ≤ ce) (h60 : en.length ≤ 60) :
    ∃ (N' : Nat) (st' : List (List UInt8)) (e : Int), N' < 18446744073709551616 ∧ st'.length = ones N' ∧
      (∀ w', Below wb.heap.size wb w' → Calls Tryd.prog 18 #[.agg cs.toArray, .string ⟨en.toArray⟩] w' fun r w'' => ∃ cs' : List Value, r = .returned (.tuple #[.agg cs'.toArray, .int .i64 e]) ∧ IsC w'' w.heap.size N' st' g (Value.slice A st.length c).ownBlock cs' ∧ Below w'.heap.size w' w'') ∧
      (∀ w', Below w.heap.size w w' → B ≤ w'.heap.size → IsF w' B g N st A c → Calls Tryd.prog 19 #[.pointer (some ⟨g, 0, none⟩), .slice Ae en.length ce] w' fun r w'' => r = .returned (.int .i64 e) ∧ ∃ A' c', FGo w' w'' B g N st A c N' st' A' c') := by
  have hgl := hF.blk.lt
  have hol : ∀ k, (Value.slice A st.length c).ownBlock = some k → k < wb.heap.size := fun k hk => (hF.own.lt k hk).2
  by_cases hmax : N = 18446744073709551615
  · refine ⟨N, st, 31, hN, hon, ?_, ?_⟩
    · intro w' hx
      have hC' := hC.below hx
      obtain ⟨A1, m, k1, A2, k2, e, _⟩ := hC
      subst hmax
      have := rAdd_full w' A1 m k1 A2 m k2 (.string ⟨en.toArray⟩)
      rw [← e] at this
      refine this.mono ?_
      rintro r w2 ⟨rfl, hb⟩
      exact ⟨cs, rfl, hC'.below hb, hb⟩
    · intro w' hx hB' hF'
      subst hmax
      refine (Add_full w' hF' _).mono ?_
      rintro r w2 ⟨rfl, rfl⟩
      exact ⟨rfl, A, c, FGo.same hF'⟩
  · have hN1 : N < 18446744073709551615 := by omega
    refine ⟨N + 1, fadd N st (leafL en), 0, by omega, fadd_len st N (leafL en) hon, ?_, ?_⟩
    · intro w' hx
      obtain ⟨A1, m, k1, A2, k2, e, h2, h3, h4, h5, _⟩ := hC
      subst e
      obtain ⟨A1', c1', e', _, _, hr1⟩ := own_form h4
      injection e' with e1 _ e3
      subst e1
      subst e3
      refine (rAdd_any w' N hN1 hon hF.ok A1 k1 A2 m k2 h2 ((hr1.below hx).more hx.size) ((h5.below hx).more hx.size) en h60).mono ?_
      rintro r w2 ⟨m', B1, l1, B2, l2, rfl, hm', ho1, ho2, hb⟩
      have hsz := hx.size
      exact ⟨_, rfl, IsC.ofAdd hm' ho1 ho2 (Nat.le_trans hbr.size hsz) (by omega) (fun k hk => Nat.lt_of_lt_of_le (hol k hk) hsz), hb⟩
    · intro w' hx hB' hF'
      exact Add_any w' hL hx hBw hF' hN1 hon hB' ((hr.below hx).more hx.size) (Nat.le_refl _) hce (by omega)
end Go.Proofs.YtohkfnmggmlogaaDoor
