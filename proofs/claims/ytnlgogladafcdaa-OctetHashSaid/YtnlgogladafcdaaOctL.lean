/- OctetHash: its walk. -/
import Derived.Test.YtnlgogladafcdaaOctJ
import Derived.Test.YtnlgogladafcdaaFlowK
namespace Go.Proofs.Ytnlgogladafcdaa
open Go.RowKit
set_option linter.unusedVariables false
/-- Rows of 32 on end. -/
theorem flat32_len : ∀ (ls : List (List UInt8)), (∀ l ∈ ls, l.length = 32) → ls.flatten.length = 32 * ls.length
  | [], _ => rfl
  | l :: r, h => by
    rw [List.flatten_cons, List.length_append, flat32_len r fun x hx => h x (List.mem_cons_of_mem _ hx), h l List.mem_cons_self, List.length_cons]
    omega
theorem flat32_get : ∀ (ls : List (List UInt8)), (∀ l ∈ ls, l.length = 32) → ∀ (i j : Nat) (h : i < ls.length), j < 32 → ls.flatten[i * 32 + j]? = ls[i][j]?
  | [], _, i, _, h, _ => absurd h (by simp)
  | l :: r, hl, 0, j, _, hj => by
    rw [List.flatten_cons, List.getElem?_append_left (by rw [hl l List.mem_cons_self]; omega)]
    simp
  | l :: r, hl, i + 1, j, h, hj => by
    have h0 := hl l List.mem_cons_self
    rw [List.flatten_cons, List.getElem?_append_right (by rw [h0]; omega), h0, show (i + 1) * 32 + j - 32 = i * 32 + j by omega, flat32_get r (fun x hx => hl x (List.mem_cons_of_mem _ hx)) i j (by simpa using h) hj]
    simp
theorem rd_hash {w : World} {B : Nat} {A : Option Addr} {ls : List (List UInt8)} (h : Rd w B A (ls.flatten.map cb)) (h32 : ∀ l ∈ ls, l.length = 32) {i : Nat} (hi : i < ls.length) :
    ∃ b off, A = some ⟨b, off, none⟩ ∧ b < B ∧ ∀ j v, (ls[i].map cb)[j]? = some v → w.cell? ⟨b, off + i * 32 + j, none⟩ = some v := by
  obtain ⟨b, off, he, hb, hd⟩ := h.at_ (k := i * 32) (by rw [List.length_map, flat32_len ls h32]; omega)
  refine ⟨b, off, he, hb, fun j v hv => ?_⟩
  have hj : j < 32 := by
    have := (List.getElem?_eq_some_iff.1 hv).1
    rw [List.length_map, h32 _ (List.getElem_mem hi)] at this
    exact this
  rw [Nat.add_assoc]
  apply hd
  rw [List.getElem?_map, flat32_get ls h32 i j hi hj, ← List.getElem?_map]
  exact hv
/-- Two readers are apart. -/
theorem IsR.apart {w w1 : World} {g g' : Nat} {s s' : RS} {A A' : Option Addr} {c c' : Nat} (h : IsR w g s A c) (h' : IsR w g' s' A' c') (hg : w.grownBy w1 (some g')) (hne : g ≠ g') : IsR w1 g s A c := by
  have hA := out_ne h.out h'.blk (by decide)
  exact ⟨(hg.block g h.blk.lt (fun e => by injection e with e; exact hne e)).trans h.blk, (h.rd.grown hg hA).more hg.size, h.len, h.cap, out_grown h.out hg hA⟩
theorem run_mkZ (n : Nat) (hn : n ≤ 1000) : ∀ w : World, (Instr.makeSlice 23 (.int .i64 n) (.int .i64 n)).run Try.prog w = .ok (.slice (some ⟨w.heap.size, 0, none⟩) n n) (w.alloc (.cells (zrow n (.int .u8 0)) 5)) := run_mk1 elB8 .i64 .i64 n (by omega) (by omega)
set_option maxRecDepth 100000 in
set_option maxHeartbeats 1000000 in
theorem OctetHash_walk (w : World) (A0 : Option Addr) (c0 : Nat) (ls : List (List UInt8)) (hc0 : ls.length ≤ c0) (hm0 : c0 ≤ maxLen) (h32 : ∀ l ∈ ls, l.length = 32) (hr0 : Rd w w.heap.size A0 (ls.flatten.map cb)) (x : Int) (hx : (Lit.int .u8 x).wf = true) :
    Calls Try.prog 10 #[.slice A0 ls.length c0, .int .u8 x] w fun e w' => e = .returned (.bool true) ∧ Below w.heap.size w w' := by
  unfold maxLen at hm0
  have hxb := bounds_u8 hx
  clear hx
  have HR := hid hr0
  have H32 := hid h32
  clear hr0 h32
  go_enter Try.func10, Try.ntmps10
  go_wp2_with fail
  refine (awake_any w).mono ?_
  rintro e w1 ⟨rfl, hb1⟩
  by_cases hs0 : 20 < ls.length
  · go_wp2
    go_ret
    exact ⟨rfl, hb1⟩
  go_wp2_with fail
  refine (NewWriter_any w1).mono ?_
  rintro e w2 ⟨g, rfl, hW2, hb2⟩
  have hb02 := bx_trans hb1 hb2
  go_wp2
  go_loopw [7] (fun j wr => ∃ (i : Nat) (A : Option Addr) (c : Nat), i ≤ ls.length ∧ j = .int .i64 i ∧ IsW wr w1.heap.size g (ls.take i).flatten A c ∧ Below w1.heap.size w1 wr) (fun j _ => ls.length - (intOf j).toNat)
  case atStart => exact ⟨0, none, 0, by omega, rfl, hW2, hb2⟩
  case round =>
    obtain ⟨i, A, c, hi, rfl, hW, hbr⟩ := hrel
    clear hW2 hb02 hb2
    by_cases hlt : i < ls.length
    · obtain ⟨b, off, rfl, hbb, hd⟩ := rd_hash (HR.out.below (bx_trans hb1 hbr)) H32.out hlt
      have h32 := H32.out _ (List.getElem_mem hlt)
      have hfl := flat32_len (ls.take i) (fun l hl => H32.out l (List.mem_of_mem_take hl))
      have htk : (ls.take (i + 1)).flatten = (ls.take i).flatten ++ ls[i] := by rw [List.take_succ_eq_append_getElem hlt, List.flatten_append]; simp
      have hll : (ls.take i).length ≤ 20 := by rw [List.length_take]; omega
      have HTK := hid htk
      have HFL := hid hfl
      clear htk hfl
      generalize ls[i] = r at *
      go_wp2_with (refine wpList_load_agg rfl _ _ rfl _ _ rfl (r.map cb) (aggHL h32) hd ?_)
      refine (WHash_any wr hW hbr.size h32 (by rw [HFL.out]; omega)).mono ?_
      rintro e w4 ⟨rfl, A4, c4, hG4⟩
      rw [← HTK.out] at hG4
      go_wp2
      go_roundw
      case rel => exact ⟨i + 1, A4, c4, by omega, by go_num, hG4.isW, hbr.trans hG4.below⟩
      case measure => simp [intOf]; omega
    · have hil : i = ls.length := by omega
      have hfl := flat32_len ls H32.out
      rw [hil, List.take_length] at hW
      have hn0 : ls.flatten.length ≤ 640 := by omega
      have hb0r := bx_trans hb1 hbr
      obtain ⟨fl, hfd⟩ : ∃ fl, fl = ls.flatten := ⟨_, rfl⟩
      rw [← hfd] at hfl hn0 hW
      have HFL := hid hfl
      have HFD := hid hfd
      clear hil hfl hfd
      go_wp2_with fail
      clear hlt hi
      refine (Out_any wr hW (by omega)).mono ?_
      rintro e w5 ⟨v, rfl, hown, hb5⟩
      obtain ⟨A5, c5, rfl, hc5, hm5, hrd5, hout5⟩ := own_slO hown
      have hb05 := bx_trans hb0r hb5
      clear hown hW hb5 hb0r hbr hb1
      go_wp2_with fail
      refine (NewReader_any w5 hrd5 (by omega)).mono ?_
      rintro e w6 ⟨g6, rfl, ⟨A6, c6, hR6⟩, hg6, hb6⟩
      have hb06 := bx_trans hb05 hb6
      have hgw : w.heap.size ≤ g6 := by have := hb05.size; omega
      clear hb05 hb6 hrd5 hout5
      go_wp2
      go_loopw [10] (fun j wr => ∃ (i : Nat), i ≤ ls.length ∧ j = .int .i64 i ∧ Rr wr g6 ⟨(ls.drop i).flatten, 0⟩ ∧ Below w.heap.size w wr) (fun j _ => ls.length - (intOf j).toNat)
      case atStart => exact ⟨0, by omega, rfl, by rw [List.drop_zero, ← HFD.out]; exact ⟨A6, c6, hR6⟩, hb06⟩
      case round =>
        obtain ⟨i, hi, rfl, hR, hbr⟩ := hrel
        clear hR6 hb06
        by_cases hlt : i < ls.length
        · obtain ⟨b, off, rfl, hbb, hd⟩ := rd_hash (HR.out.below hbr) H32.out hlt
          have h32 := H32.out _ (List.getElem_mem hlt)
          have hdr : (ls.drop i).flatten = ls[i] ++ (ls.drop (i + 1)).flatten := by rw [List.drop_eq_getElem_cons hlt]; rfl
          have htk := takeV_pre (l := ls[i]) (m := (ls.drop (i + 1)).flatten) h32
          rw [hdr] at hR
          have hfl := flat32_len (ls.drop (i + 1)) (fun l hl => H32.out l (List.mem_of_mem_drop hl))
          have hll : (ls.drop (i + 1)).flatten.length ≤ 640 := by rw [hfl, List.length_drop]; omega
          clear hfl hdr
          generalize hrest : (ls.drop (i + 1)).flatten = rest at *
          have HRS := hid hrest
          clear hrest
          generalize ls[i] = r at *
          have hV : hashV ⟨r ++ rest, 0⟩ = r := by unfold hashV; rw [htk.1, if_pos h32]
          have hlen : (⟨r ++ rest, 0⟩ : RS).b.length ≤ 1000000000 := by show (r ++ rest).length ≤ _; rw [List.length_append]; omega
          have heq := eq_hash r r h32 h32
          rw [show (r == r) = true from by simp] at heq
          have HT := hid htk
          have HV := hid hV
          clear htk hV
          have hlow : ∀ w', Below w.heap.size wr w' → ∀ j v, (r.map cb)[j]? = some v → w'.cell? ⟨b, off + i * 32 + j, none⟩ = some v := fun w' hb j v hv => (hb.cell (p := ⟨b, off + i * 32 + j, none⟩) hbb).trans (hd j v hv)
          obtain ⟨AR, cR, hR⟩ := hR
          have hRd := hR.below (w1 := wr.drew) (bx_drew (Below.refl _ _))
          have HL := hid hlow
          have HRD := hid hRd
          clear hlow hRd hd
          go_wp2
          refine wp_flowK (by kernel_rfl) [0, 1, 0, 0, 12, 28, 63] 7 [false, false, false, false, false, false, false, false, false, false, false, false, false, false, false, false, false, false, false, false, false, false, false, false, false, false, false, false, false, false, false, false, false, false, false, false, false, false, false, false, false, false, true, true, true, true, true, true, true] (by kernel_rfl) (by decide) (by kernel_rfl) [KP.eq (.pointer (some ⟨g6, 0, none⟩)), KP.any, KP.eq (.slice (some ⟨b, off, none⟩) ls.length c0), KP.eq (.int .i64 (i : Int)), KP.eq (.pointer (some ⟨b, off + i * 32, none⟩)), KP.eq (.agg (r.map cb).toArray), KP.eq (.bool false)] [1] (fun ks w' => match ks with | [some v] => v = .agg (r.map cb).toArray ∧ Rr w' g6 ⟨rest, 0⟩ ∧ wr.grownBy w' (some g6) | _ => w' = wr.drew) ?_ ?_ ?_
          · exact rfl
          · refine allFrom_cons ?_ ?_
            · refine stepK_by (by decide) ?_
              intro f_ a_ w_ hM_ hk_
              have h9 : a_.eval (.tmp 9) = .pointer (some ⟨g6, 0, none⟩) := hk_.old 9 (by kernel_rfl)
              have k1 := hk_.later 1 _ (by kernel_rfl) rfl
              clear hk_
              refine flow_plain rfl ?_
              exact gives_move rfl ⟨hM_, h9⟩
            refine allFrom_cons ?_ ?_
            · intro f_ a_ w_ hM_ hk_
              have h42 : a_.eval (.tmp 42) = (.pointer (some ⟨g6, 0, none⟩)) := hk_.got 0 42 _ (by kernel_rfl) rfl rfl
              have k1 : f_ 1 = none := hk_.un
              clear hk_
              simp only [List.map_cons, List.map_nil, k1] at hM_
              simp only [List.map_cons, List.map_nil, upd_same]
              refine flow_plain rfl ?_
              unfold gives
              have hc_ : ∀ v, a_.eval (.const v) = v := fun _ => rfl
              have hn_ : ∀ f, a_.eval (.func f) = .func (.func f) #[] #[] := fun _ => rfl
              generalize a_.eval = ρ_ at *
              go_simp
              subst hM_
              exact (RHash_any _ HRD.out hlen).mono fun e w' ⟨h1, h2, h3⟩ => ⟨_, h1, by rw [HV.out], by rw [← HT.out.2]; exact h2, rg_trans (rg_below (bx_drew (Below.refl _ _))) h3⟩
            refine allFrom_cons ?_ ?_
            · refine stepK_by (by decide) ?_
              intro f_ a_ w_ hM_ hk_
              have h0 : a_.eval (.tmp 0) = .slice (some ⟨b, off, none⟩) ls.length c0 := hk_.old 0 (by kernel_rfl)
              clear hk_
              refine flow_plain rfl ?_
              exact gives_move rfl ⟨hM_, h0⟩
            refine allFrom_cons ?_ ?_
            · refine stepK_by (by decide) ?_
              intro f_ a_ w_ hM_ hk_
              have h10 : a_.eval (.tmp 10) = .int .i64 (i : Int) := hk_.old 10 (by kernel_rfl)
              clear hk_
              refine flow_plain rfl ?_
              exact gives_move rfl ⟨hM_, h10⟩
            refine allFrom_cons ?_ ?_
            · refine stepK_by (by decide) ?_
              intro f_ a_ w_ hM_ hk_
              have h44 : a_.eval (.tmp 44) = (.slice (some ⟨b, off, none⟩) ls.length c0) := hk_.got 2 44 _ (by kernel_rfl) rfl rfl
              have h45 : a_.eval (.tmp 45) = (.int .i64 (i : Int)) := hk_.got 3 45 _ (by kernel_rfl) rfl rfl
              clear hk_
              refine flow_plain rfl ?_
              refine gives_keep hM_ ?_
              unfold gives
              have hc_ : ∀ v, a_.eval (.const v) = v := fun _ => rfl
              have hn_ : ∀ f, a_.eval (.func f) = .func (.func f) #[] #[] := fun _ => rfl
              generalize a_.eval = ρ_ at *
              go_simp
              exact ⟨rfl, rfl⟩
            refine allFrom_cons ?_ ?_
            · refine stepK_by (by decide) ?_
              intro f_ a_ w_ hM_ hk_
              have h46 : a_.eval (.tmp 46) = (.pointer (some ⟨b, off + i * 32, none⟩)) := hk_.got 4 46 _ (by kernel_rfl) rfl rfl
              clear hk_
              refine flow_plain rfl ?_
              have hM := hM_
              simp only [List.map_cons, List.map_nil] at hM
              have hbel : Below w.heap.size wr w_ := by (revert hM; cases f_ 1 with | none => exact fun hM => (by rw [show w_ = wr.drew from hM]; exact (bx_drew (Below.refl _ _)).mono hbr.size) | some v1 => exact fun hM => below_rg hM.2.2 hgw hbr.size)
              exact gives_load_agg rfl h46 (aggHL h32) (HL.out _ hbel) ⟨hM_, rfl⟩
            refine allFrom_cons ?_ ?_
            · refine stepK_by (by decide) ?_
              intro f_ a_ w_ hM_ hk_
              have h47 : a_.eval (.tmp 47) = (.agg (r.map cb).toArray) := hk_.got 5 47 _ (by kernel_rfl) rfl rfl
              have k1 := hk_.val 1 43 _ (by kernel_rfl) rfl rfl
              clear hk_
              refine flow_plain rfl ?_
              have hM := hM_
              simp only [List.map_cons, List.map_nil, k1] at hM
              refine gives_keep hM_ ?_
              unfold gives
              have hc_ : ∀ v, a_.eval (.const v) = v := fun _ => rfl
              have hn_ : ∀ f, a_.eval (.func f) = .func (.func f) #[] #[] := fun _ => rfl
              obtain ⟨e1, _, _⟩ := hM
              generalize a_.eval = ρ_ at *
              go_simp
              exact ⟨rfl, rfl⟩
            exact allFrom_nil
          intro f_ y_ w_ hM_ hf_ hd_
          have h42 : f_ 42 = (.pointer (some ⟨g6, 0, none⟩)) := (hf_ 0 42 _ (by decide) rfl rfl).1
          have k1 := (hf_ 1 43 _ (by decide) rfl rfl).2
          have h44 : f_ 44 = (.slice (some ⟨b, off, none⟩) ls.length c0) := (hf_ 2 44 _ (by decide) rfl rfl).1
          have h45 : f_ 45 = (.int .i64 (i : Int)) := (hf_ 3 45 _ (by decide) rfl rfl).1
          have h46 : f_ 46 = (.pointer (some ⟨b, off + i * 32, none⟩)) := (hf_ 4 46 _ (by decide) rfl rfl).1
          have h47 : f_ 47 = (.agg (r.map cb).toArray) := (hf_ 5 47 _ (by decide) rfl rfl).1
          have h48 : f_ 48 = (.bool false) := (hf_ 6 48 _ (by decide) rfl rfl).1
          simp only [List.map_cons, List.map_nil, k1] at hM_
          simp only [mix, List.drop_succ_cons, List.drop_zero, h42, h44, h45, h46, h47, h48]
          clear hf_ hd_ h42 h44 h45 h46 h47 h48 k1
          obtain ⟨_, hR7, hG7⟩ := hM_
          have hb7 := hbr.trans (below_rg hG7 hgw hbr.size)
          go_wp2
          go_roundw
          case rel => exact ⟨i + 1, by omega, by go_num, by rw [HRS.out]; exact hR7, hb7⟩
          case measure => simp [intOf]; omega
        · have hil : i = ls.length := by omega
          rw [hil, List.drop_length, List.flatten_nil] at hR
          obtain ⟨AR, cR, hR⟩ := hR
          obtain ⟨n, hn⟩ : ∃ n, n = x.toNat % 32 := ⟨_, rfl⟩
          have hxn : x % 32 = (n : Int) := by omega
          have hnw : IntKind.u8.wrap (n : Int) = (n : Int) := by simp [IntKind.wrap, IntKind.bits, IntKind.signed]; omega
          have hnw2 : IntKind.i64.wrap (n : Int) = (n : Int) := wr_i64 _ (by omega) (by omega)
          have hn32 : n < 32 := by omega
          clear hn hil hi
          have hmk := run_mkZ n (by omega)
          have hrdz : Rd (wr.alloc (.cells (zrow n (.int .u8 0)) 5)) (wr.alloc (.cells (zrow n (.int .u8 0)) 5)).heap.size (some ⟨wr.heap.size, 0, none⟩) ((List.replicate n (0 : UInt8)).map cb) := rd_of_row (heap_new rfl) (by simp [zrow, cb])
          have hbz : Below w.heap.size w (wr.alloc (.cells (zrow n (.int .u8 0)) 5)) := bx_alloc hbr _
          have hbz1 : Below wr.heap.size wr (wr.alloc (.cells (zrow n (.int .u8 0)) 5)) := bx_alloc (Below.refl _ _) _
          have hR8 := hR.below hbz1
          have HRDZ := hid hrdz
          have HBZ := hid hbz
          have HR8 := hid hR8
          clear hrdz hbz hR8 hbz1
          go_wp2_with fail
          have hNR := NewReader_any _ (c := n) HRDZ.out (by simp; omega)
          rw [List.length_replicate] at hNR
          refine hNR.mono ?_
          rintro e w8 ⟨g8, rfl, ⟨A8, c8, hS8⟩, hg8, hb8⟩
          have hb08 := bx_trans HBZ.out hb8
          have hR8 := HR8.out.below hb8
          have hgw8 : w.heap.size ≤ g8 := by have := HBZ.out.size; omega
          have hg68 : g6 < g8 := Nat.lt_of_lt_of_le HR8.out.blk.lt hg8
          obtain ⟨z, hz, hzl⟩ : ∃ z, z = List.replicate n (0 : UInt8) ∧ z.length = n := ⟨_, rfl, by simp⟩
          rw [← hz] at hS8
          have htv : takeV ⟨z, 0⟩ 32 = [] ∧ takeS ⟨z, 0⟩ 32 = ⟨z, 10⟩ := by
            unfold takeV takeS
            rw [if_pos rfl, if_pos (by show z.length < 32; omega), if_pos rfl, if_pos (by show z.length < 32; omega)]
            exact ⟨rfl, rfl⟩
          have hhv : hashV ⟨z, 0⟩ = List.replicate 32 0 := by unfold hashV; rw [htv.1]; rfl
          have hzl2 : (⟨z, 0⟩ : RS).b.length ≤ 1000000000 := by show z.length ≤ _; omega
          have HTV := hid htv
          have HHV := hid hhv
          clear hNR hz hzl htv hhv hb8 HRDZ HBZ HR8
          go_wp2_with fail
          refine (RHash_any w8 hS8 hzl2).mono ?_
          rintro e w9 ⟨rfl, hS9, hG9⟩
          rw [HHV.out]
          rw [HTV.out.2] at hS9
          clear HHV HTV
          have hb09 := hb08.trans (below_rg hG9 hgw8 hb08.size)
          obtain ⟨AS, cS, hS9⟩ := hS9
          have hR9 := hR8.apart hS8 hG9 (by omega)
          clear hS8 hG9 hb08 hR8
          have hzz0 : (List.replicate 32 (0 : UInt8)).length = 32 := by simp
          have heq : ∀ w, (Op.equalIn 10000 25 (.agg ((List.replicate 32 (0 : UInt8)).map cb).toArray) (.agg #[.int .u8 0, .int .u8 0, .int .u8 0, .int .u8 0, .int .u8 0, .int .u8 0, .int .u8 0, .int .u8 0, .int .u8 0, .int .u8 0, .int .u8 0, .int .u8 0, .int .u8 0, .int .u8 0, .int .u8 0, .int .u8 0, .int .u8 0, .int .u8 0, .int .u8 0, .int .u8 0, .int .u8 0, .int .u8 0, .int .u8 0, .int .u8 0, .int .u8 0, .int .u8 0, .int .u8 0, .int .u8 0, .int .u8 0, .int .u8 0, .int .u8 0, .int .u8 0])).run Try.prog w = .ok true w := fun w => by
            have := eq_hash _ _ hzz0 hzz0 w
            rw [show (List.replicate 32 (0 : UInt8) == List.replicate 32 0) = true from by decide] at this
            exact this
          generalize List.replicate 32 (0 : UInt8) = z32 at *
          have hzz := hzz0
          clear hzz0
          have hcw : IntKind.i64.wrap (32 * (ls.length : Int)) = 32 * (ls.length : Int) := wr_i64 _ (by omega) (by omega)
          have hce : ((fl.length : Int) == 32 * (ls.length : Int)) = true := by simp only [beq_iff_eq]; rw [HFL.out]; omega
          go_wp2_with (first
            | (refine wpList_alloc rfl _ rfl zeroH ?_; intro g10 w10 hg10 hg10' hblk10 hb10)
            | (refine wpList_store_agg rfl _ _ _ rfl _ _ rfl (z32.map cb).toArray rfl (aggHS hzz) hblk10 (szH hzz) (one_cbA _) ?_; intro w11 hput; have hbx := bx_put hb10 hput hg10; have hblk11 := hput.blk; rw [splH hzz] at hblk11; have hR11 := hR9.below hbx; have hS11 := hS9.below hbx)
            | (refine wpList_load_aggG rfl _ _ rfl _ _ rfl _ (aggHL hzz) (blk_cells hblk11) ?_))
          refine (REnd_any w11 hR11).mono ?_
          rintro e w12 ⟨rfl, rfl⟩
          rw [show endE ⟨[], 0⟩ = 0 from by decide +kernel]
          go_wp2_with (refine wpList_load_aggG rfl _ _ rfl _ _ rfl _ (aggHL hzz) (blk_cells hblk11) ?_)
          refine (RErr_any w11 hS11).mono ?_
          rintro e w12 ⟨rfl, rfl⟩
          go_wp2
          go_ret
          exact ⟨rfl, bx_trans hb09 hbx⟩
end Go.Proofs.Ytnlgogladafcdaa
