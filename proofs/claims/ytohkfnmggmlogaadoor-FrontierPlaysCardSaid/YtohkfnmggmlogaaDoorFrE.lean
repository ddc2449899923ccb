
/- A frontier: the law's example. -/
import Derived.Test.YtohkfnmggmlogaaDoorFrD
import Derived.Test.YtohkfnmggmlogaaDoorFrQ
namespace Go.Proofs.YtohkfnmggmlogaaDoor
open Go.RowKit
set_option linter.unusedVariables false
theorem FRoot_any (w : World) (hL : Laid w) {B g n : Nat} {st : List (List UInt8)} {A : Option Addr} {c : Nat} (hF : IsF w B g n st A c) (ho : st.length = ones n) (hn : n < 18446744073709551616) :
    Calls Tryd.prog 16 #[.pointer (some ⟨g, 0, none⟩)] w fun e w' => e = .returned (.agg ((froot st).map cb).toArray) ∧ Below w.heap.size w w' := by
  by_cases h0 : n = 0
  · subst h0
    have hs : st = [] := List.eq_nil_of_length_eq_zero (by rw [ho, ones_zero])
    subst hs
    exact Root_zero w hL _ fun w' hb => Size_any w' (hF.below hb)
  · have h1 := ones_le 64 n hn
    have h2 : st ≠ [] := by
      intro e
      rw [e, List.length_nil] at ho
      have key : ∀ m n : Nat, n ≤ m → n ≠ 0 → ones n ≠ 0 := by
        intro m
        induction m with
        | zero => intro n h1 h2; omega
        | succ m ih =>
          intro n h1 h2 h3
          have := ones_eq n
          by_cases h4 : n / 2 = 0
          · omega
          · have := ih (n / 2) (by omega) h4
            omega
      exact key n n (Nat.le_refl _) h0 ho.symm
    exact Root_some w hL hF h2 h0 rfl (by omega)
/-- Blocks of other types are kept by a frontier's call. -/
theorem blk_go {w w' : World} {B g n n' : Nat} {st st' : List (List UInt8)} {A A' : Option Addr} {c c' : Nat} (h : FGo w w' B g n st A c n' st' A' c') (hF : IsF w B g n st A c) {k t : Nat} {cs : Array Value} (hb : Blk w k t cs) (h1 : t ≠ tFr) (h2 : t ≠ tHa) : Blk w' k t cs := by
  refine (h.keep k hb.lt (fun e => ?_) (fun e => ?_)).1.trans hb
  · subst e
    have := hF.blk
    unfold Blk at this hb
    rw [hb] at this
    injection this with this
    injection this with _ this
    exact h1 this
  · obtain ⟨cs', fz, hc⟩ := own_kind hF.own k e
    unfold Blk at hb
    rw [hb] at hc
    injection hc with hc
    injection hc with _ hc
    exact h2 hc
theorem own_go {w w' : World} {B g n n' : Nat} {st st' : List (List UInt8)} {A A' : Option Addr} {c c' : Nat} (h : FGo w w' B g n st A c n' st' A' c') (hF : IsF w B g n st A c) {base e size m : Nat} {v : Value} {xs : List Value} (ho : w.ownsRow base e size v m xs) (h1 : e ≠ tFr) (h2 : e ≠ tHa) : w'.ownsRow base e size v m xs := by
  refine ⟨ho.1, ho.2.imp id ?_⟩
  rintro ⟨g', cap, cur, e1, hb, hh, hr⟩
  refine ⟨g', cap, cur, e1, hb, (h.keep g' (Array.getElem?_eq_some_iff.1 hh).1 (fun e => ?_) (fun e => ?_)).1.trans hh, hr⟩
  · subst e
    have := hF.blk
    unfold Blk at this
    rw [hh] at this
    injection this with this
    injection this with _ this
    exact h1 this
  · obtain ⟨cs', fz, hc⟩ := own_kind hF.own g' e
    rw [hh] at hc
    injection hc with hc
    injection hc with _ hc
    exact h2 hc
theorem blk_grow {w w1 : World} {k t : Nat} {cs : Array Value} {base e size n : Nat} {v : Value} {xs : List Value} (hb : Blk w k t cs) (ho : w.ownsRow base e size v n xs) (hg : w.grownBy w1 v.ownBlock) (ht : t ≠ e) : Blk w1 k t cs := by
  refine (hg.block k hb.lt (fun e2 => ?_)).trans hb
  obtain ⟨cs', fz, hc⟩ := own_kind ho k e2.symm
  unfold Blk at hb
  rw [hb] at hc
  injection hc with hc
  injection hc with _ hc
  exact ht hc
theorem IsF.grow {w w1 : World} {B g m : Nat} {st : List (List UInt8)} {A : Option Addr} {c : Nat} (h : IsF w B g m st A c) {base e size n : Nat} {v : Value} {xs : List Value} (ho : w.ownsRow base e size v n xs) (hg : w.grownBy w1 v.ownBlock) (h1 : tFr ≠ e) (h2 : tHa ≠ e) : IsF w1 B g m st A c :=
  ⟨blk_grow h.blk ho hg h1, h.own.kept hg (own_apart h.own ho h2), h.gB, h.ok⟩
/-- The first numbers as entries of a byte each. -/
def tenL (i : Nat) : List (List UInt8) := (List.range i).map fun k => [UInt8.ofNat k]
theorem tenL_succ (i : Nat) : tenL (i + 1) = tenL i ++ [[UInt8.ofNat i]] := by unfold tenL; rw [List.range_succ, List.map_append]; rfl
theorem tenL_len (i : Nat) : (tenL i).length = i := by unfold tenL; simp
abbrev tBs : Nat := 44
theorem elBs : ElT Tryd.prog 24 tBs 1 24 (Value.slice none 0 0).cells := elT_of (z := .slice none 0 0) Tryd.underlying24 (by kernel_rfl) rfl (by decide)
theorem one_sl (l : List Nat) : ∀ u ∈ l.map (fun b => Value.slice (some ⟨b, 0, none⟩) 1 1), u.oneCell' = true := by
  intro u hu
  obtain ⟨b, _, rfl⟩ := List.mem_map.1 hu
  rfl
theorem ofNat_u8 {i : Nat} (h : i < 256) : cb (UInt8.ofNat i) = .int .u8 (i : Int) := by
  unfold cb
  rw [UInt8.toNat_ofNat_of_lt' h]
/-- What a round of the example keeps. -/
def WRel (w : World) (g : Nat) (v2 v3 : Value) (wr : World) : Prop :=
  ∃ (i : Nat) (bs : List Nat) (A : Option Addr) (c : Nat), i ≤ 7 ∧ v3 = .int .i64 (i : Int) ∧ bs.length = i ∧ (∀ k b : Nat, bs[k]? = some b → Blk wr b 5 #[.int .u8 (k : Int)]) ∧ wr.ownsRow w.heap.size tBs 1 v2 i (bs.map fun b => .slice (some ⟨b, 0, none⟩) 1 1) ∧
    IsF wr w.heap.size g i (frs (tenL i)) A c ∧ Below w.heap.size w wr
set_option maxRecDepth 100000 in
set_option maxHeartbeats 2000000 in
theorem frAwake (w : World) (hL : Laid w) : Calls Tryd.prog 9 #[] w fun e w' => e = .returned (.bool true) ∧ Below w.heap.size w w' := by
  have HL := hid hL
  clear hL
  go_enter Tryd.func9, Tryd.ntmps9
  go_wp2_with fail
  refine (New_any w).mono ?_
  rintro e w1 ⟨g, rfl, hF1, hb1⟩
  have HF1 := hid hF1
  clear hF1
  go_wp2
  go_loopw [2, 3] (fun v2 v3 wr => WRel w g v2 v3 wr) (fun _ v3 _ => 7 - (intOf v3).toNat)
  case atStart => exact ⟨0, [], none, 0, by omega, rfl, rfl, (by intro k b h; simp at h), World.ownsRow_nil _ _ _ _, HF1.out, hb1⟩
  case round =>
    obtain ⟨i, bs, A, c, hi, rfl, hbl, hbb, hown, hF, hbr⟩ := hrel
    rename World => wr
    by_cases hlt : i < 7
    · have hu8 : IntKind.u8.wrap (i : Int) = (i : Int) := by simp only [IntKind.wrap, IntKind.bits, IntKind.signed]; simp; omega
      obtain ⟨wq, hwq⟩ : ∃ wq, wq = (wr.alloc (.cells #[.int .u8 (i : Int)] 5)).alloc (.cells #[.slice (some ⟨wr.heap.size, 0, none⟩) 1 1] tBs) := ⟨_, rfl⟩
      have hbq : Below wr.heap.size wr wq := by rw [hwq]; exact bx_alloc (bx_alloc (Below.refl _ _) _) _
      have hownq := own_keep hown hbq
      have hFq := hF.below hbq
      have hnew : Blk wq wr.heap.size 5 #[.int .u8 (i : Int)] := by rw [hwq]; exact (Blk.new _ _ _).alloc _
      have hrdq : Rd wq wq.heap.size (some ⟨wr.heap.size + 1, 0, none⟩) ([wr.heap.size].map fun b => Value.slice (some ⟨b, 0, none⟩) 1 1) := by
        have := Blk.new (wr.alloc (.cells #[.int .u8 (i : Int)] 5)) tBs #[.slice (some ⟨wr.heap.size, 0, none⟩) 1 1]
        rw [← hwq, World.size_alloc] at this
        exact rd_of_row this rfl
      have hbbq : ∀ k b : Nat, bs[k]? = some b → Blk wq b 5 #[.int .u8 (k : Int)] := fun k b h => (hbb k b h).below hbq (hbb k b h).lt
      have hb0q := bx_trans hbr hbq
      have h63 : i + 1 ≤ maxLen := by unfold maxLen; omega
      have hby : (i + 1) * 24 ≤ 140737488355328 := by omega
      have hbsq := hb0q.size
      obtain ⟨A2, c2, rfl, _, _, _⟩ := own_form hown
      have HBB := hid hbbq
      have HF := hid hFq
      have HNEW := hid hnew
      have HRDQ := hid hrdq
      have HOWN := hid hownq
      have HBL := hid hbl
      have hws := hbq.size
      have hwlt : wr.heap.size < wq.heap.size := by rw [hwq]; simp; omega
      have HWQ := hid hwq
      have hlt7 : (i : Int) < 7 := by omega
      clear hbb hbbq hF hFq hnew hrdq hown hownq hbq hbl
      generalize hC7 : Code.region 7 _ _ = C7
      have HC7 := hid hC7
      clear hC7
      go_wp2_with (at_builtin; rw [← HWQ.out]; refine wpList_app rfl _ _ _ rfl _ rfl _ _ _ rfl elBs HOWN.out HRDQ.out rfl (one_sl _) h63 hby hbsq ?_; intro v7 w7 hown7 hg7 hat7)
      have hbl : bs.length = i := HBL.out
      have hnew7 := blk_grow HNEW.out HOWN.out hg7 (by decide)
      have hF7 := HF.out.grow HOWN.out hg7 (by decide) (by decide)
      have hbb7 : ∀ k b : Nat, (bs ++ [wr.heap.size])[k]? = some b → Blk w7 b 5 #[.int .u8 (k : Int)] := by
        intro k b hk
        by_cases hkl : k < bs.length
        · rw [List.getElem?_append_left hkl] at hk
          exact blk_grow (HBB.out k b hk) HOWN.out hg7 (by decide)
        · rw [List.getElem?_append_right (by omega)] at hk
          have hk0 : k = i := by
            have := (List.getElem?_eq_some_iff.1 hk).1
            simp at this
            omega
          subst hk0
          rw [hbl, Nat.sub_self] at hk
          injection hk with hk
          subst hk
          exact hnew7
      have hb7 := own_below hb0q HOWN.out hg7
      rw [← List.map_append] at hown7
      obtain ⟨gq, cq, rfl, hgq, hgql, hcq, hcm⟩ := own_block hown7 (by omega)
      have hcell : w7.cell? ⟨gq, i, none⟩ = some (.slice (some ⟨wr.heap.size, 0, none⟩) 1 1) := by
        rcases own_rd hown7 with h | ⟨b', off', he, _, hc'⟩
        · have := congrArg List.length h
          simp at this
        · injection he with he
          injection he with e1 e2
          subst e1 e2
          have := hc' i (.slice (some ⟨wr.heap.size, 0, none⟩) 1 1) (by rw [List.getElem?_map, List.getElem?_append_right (by omega), hbl, Nat.sub_self]; rfl)
          rwa [Nat.zero_add] at this
      have hrd7 : Rd w7 w7.heap.size (some ⟨wr.heap.size, 0, none⟩) ([UInt8.ofNat i].map cb) := rd_of_row hnew7 (by rw [List.map_cons, List.map_nil, ofNat_u8 (by omega)])
      have HADD := hid (Add_any w7 (w0 := w) HL.out hb7 (Nat.le_refl _) hF7 (by omega) (by rw [(stk_frs (tenL i)).2, tenL_len]) hb7.size hrd7 (Nat.le_refl _) (Nat.le_refl 1) (by simp))
      have HBB7 := hid hbb7
      have HOWN7 := hid hown7
      have HF7 := hid hF7
      have HB7 := hid hb7
      have hiq : i < i + 1 := by omega
      clear hg7 hat7 hbb7 hnew7 hF7 hown7 hrd7 hb7 HRDQ HOWN HF HNEW HBB
      obtain rfl := HC7.out
      clear HC7
      go_wp2_with fail
      refine HADD.out.mono ?_
      rintro e w8 ⟨rfl, A8, c8, hgo⟩
      have hF8 := hgo.isF
      rw [show leafL [UInt8.ofNat i] = leafL [UInt8.ofNat i] from rfl] at hF8
      have hfr : frs (tenL (i + 1)) = fadd i (frs (tenL i)) (leafL [UInt8.ofNat i]) := by rw [tenL_succ, frs_snoc, tenL_len]
      rw [← hfr] at hF8
      have hown8 := own_go hgo HF7.out HOWN7.out (by decide) (by decide)
      have hbb8 : ∀ k b : Nat, (bs ++ [wr.heap.size])[k]? = some b → Blk w8 b 5 #[.int .u8 (k : Int)] := fun k b h => blk_go hgo HF7.out (HBB7.out k b h) (by decide) (by decide)
      have hb8 := HB7.out.trans hgo.below
      have HF8 := hid hF8
      have HBB8 := hid hbb8
      clear hgo hfr hbb8 hF8
      go_wp2_with fail
      go_roundw
      case rel => exact ⟨i + 1, bs ++ [wr.heap.size], A8, c8, by omega, by go_num, by rw [List.length_append, hbl]; rfl, HBB8.out, hown8, HF8.out, hb8⟩
      case measure => simp [intOf]; omega
    · obtain rfl : i = 7 := by omega
      have hst3 : (frs (tenL 7)).length = 3 := by rw [(stk_frs (tenL 7)).2, tenL_len, ← partsR_len _ 1 7 (Nat.le_refl _), parts7]; rfl
      have hp0 := (frs_at (tenL 7) (k := 0) (s := 4) (by rw [tenL_len, parts7]; rfl)).1
      have hp2 := (frs_at (tenL 7) (k := 2) (s := 1) (by rw [tenL_len, parts7]; rfl)).1
      have ho0 : offP (tenL 7).length 0 = 0 := rfl
      have ho2 : offP (tenL 7).length 2 = 6 := by rw [tenL_len]; unfold offP; rw [parts7]; rfl
      rw [ho0, List.drop_zero] at hp0
      rw [ho2, show ((tenL 7).drop 6).take 1 = [[6]] from rfl, treeR_one] at hp2
      have hfr := froot_frs (tenL 7)
      obtain ⟨gq, cq, rfl, hgq, hgql, hcq, hcm⟩ := own_block hown (by omega)
      have hrr : RdBB wr wr.heap.size (some ⟨gq, 0, none⟩) (tenL 7) := by
        refine .inr ⟨gq, 0, rfl, hgql, fun k l hl => ?_⟩
        have hk : k < 7 := by have := (List.getElem?_eq_some_iff.1 hl).1; rwa [tenL_len] at this
        obtain ⟨b, hb⟩ : ∃ b, bs[k]? = some b := ⟨_, List.getElem?_eq_getElem (by omega)⟩
        have hbk := hbb k b hb
        have hle : l = [UInt8.ofNat k] := by
          unfold tenL at hl
          rw [List.getElem?_map, List.getElem?_range hk] at hl
          injection hl with hl
          exact hl.symm
        subst hle
        refine ⟨.slice (some ⟨b, 0, none⟩) 1 1, ?_, some ⟨b, 0, none⟩, 1, rfl, Nat.le_refl _, rd_of_row hbk (by rw [List.map_cons, List.map_nil, ofNat_u8 (by omega)])⟩
        rcases own_rd hown with h | ⟨b', off', he, _, hc'⟩
        · have := congrArg List.length h
          rw [List.length_map, hbl] at this
          cases this
        · injection he with he
          injection he with e1 e2
          subst e1 e2
          exact hc' k (.slice (some ⟨b, 0, none⟩) 1 1) (by rw [List.getElem?_map, hb]; rfl)
      have hrr4 := hrr.takeL 4
      have h4l : ((tenL 7).take 4).length = 4 := rfl
      have h7l : (tenL 7).length = 7 := rfl
      have hlen7 : ∀ l ∈ tenL 7, l.length ≤ 800000000 := by
        intro l hl
        obtain ⟨k, _, rfl⟩ := List.mem_map.1 hl
        simp
      have HL7 := hid hlen7
      have HL4 := hid (fun l hl => hlen7 l (List.mem_of_mem_take hl) : ∀ l ∈ (tenL 7).take 4, l.length ≤ 800000000)
      have H4L := hid h4l
      have H7L := hid h7l
      have HR := hid hrr
      have HR4 := hid hrr4
      have hon : (frs (tenL 7)).length = ones 7 := (stk_frs (tenL 7)).2
      have hx0 := treeR_len ((tenL 7).take 4)
      have hxr := treeR_len (tenL 7)
      have hx2 := leafL_len [6]
      have HFR := hid hfr
      have HON := hid hon
      have HP0 := hid hp0
      have HP2 := hid hp2
      have h6 : (shaL [0, 6]) = leafL [6] := rfl
      clear hfr hon hp0 hp2 hlen7 h4l h7l hrr hrr4 ho0 ho2 hbb
      generalize frs (tenL 7) = st at *
      generalize (tenL 7).take 4 = l4 at *
      generalize tenL 7 = l7 at *
      have HF := hid hF
      have H6 := hid h6
      clear hF h6
      go_wp2_with fail
      refine (Peaks_any wr HF.out (by omega)).mono ?_
      rintro e w5 ⟨v5, rfl, hown5, hb5⟩
      rw [hst3] at hown5
      obtain ⟨gp, cp, rfl, hgp, hgpl, hcp, hcpm⟩ := own_block hown5 (by omega)
      have hrp := own_rd hown5
      have h32 : ∀ p ∈ st.reverse, p.length = 32 := fun p hp => HF.out.ok p (List.mem_reverse.1 hp)
      have hc0 := (rd_hash hrp h32 0 (by rw [List.length_reverse, hst3]; decide)).2
      have hc2 := (rd_hash hrp h32 2 (by rw [List.length_reverse, hst3]; decide)).2
      rw [show st.reverse[0]'(by rw [List.length_reverse, hst3]; decide) = treeR l4 from Option.some.inj ((List.getElem?_eq_getElem _).symm.trans HP0.out)] at hc0
      rw [show st.reverse[2]'(by rw [List.length_reverse, hst3]; decide) = leafL [6] from Option.some.inj ((List.getElem?_eq_getElem _).symm.trans HP2.out)] at hc2
      have HF5 := hid (HF.out.below hb5)
      have HR5 := hid (HR.out.below hb5)
      have HR45 := hid (HR4.out.below hb5)
      have HLW := hid (HL.out.below (bx_trans hbr hb5))
      have HB5 := hid (bx_trans hbr hb5)
      have HC0 := hid hc0
      have HC2 := hid hc2
      have hs5 := hb5.size
      have hcq4 : (4 : Int) ≤ (cq : Int) := by omega
      obtain ⟨x2, hx2e⟩ : ∃ x2, x2 = leafL [6] := ⟨_, rfl⟩
      rw [← hx2e] at HC2 hx2 H6
      generalize hT4 : treeR l4 = x0 at *
      generalize hT7 : treeR l7 = x7 at *
      have q2 := eq_hash x2 x2 hx2 hx2
      have q0 := eq_hash x0 x0 hx0 hx0
      have q7 := eq_hash x7 x7 hxr hxr
      have a0 := aggHL hx0
      have a2 := aggHL hx2
      have HT4 := hid hT4
      have HT7 := hid hT7
      clear hx2e hT4 hT7 hc0 hc2 hrp h32 hown5 hb5 hown
      go_wp2_with fail
      refine wp_flow (by kernel_rfl) [0, 1, 3, 7, 15, 31, 63, 127, 255, 511, 1023, 2047, 511, 4607, 16383, 32767, 65535, 131071, 262143, 524287, 131071, 1179647, 3276799, 8388607, 16777215, 33554431, 67108863, 134217727, 67108863, 536870911, 1073741823, 2147483647, 4294967295] 32 [false, false, false, false, false, false, false, false, false, false, false, false, false, false, false, false, false, false, false, false, false, false, false, false, false, true, true, true, true, true, true, true, true, true, true, true, true, true, true, true, true, true, true, true, true, true, true, true, true, true, true, true, true, true, true, true, true] (by kernel_rfl) (by decide) (by kernel_rfl) [FP.eq (.pointer (some ⟨g, 0, none⟩)), FP.eq (.int .u64 7), FP.eq (.bool true), FP.eq (.bool true), FP.eq (.slice (some ⟨gp, 0, none⟩) 3 cp), FP.eq (.int .i64 3), FP.eq (.bool true), FP.eq (.bool true), FP.eq (.bool true), FP.eq (.slice (some ⟨gp, 0, none⟩) 3 cp), FP.eq (.pointer (some ⟨gp, 64, none⟩)), FP.eq (.agg (x2.map cb).toArray), FP.bytes [(6 : UInt8)], FP.eq (.agg (x2.map cb).toArray), FP.eq (.bool true), FP.eq (.bool true), FP.eq (.bool true), FP.eq (.slice (some ⟨gp, 0, none⟩) 3 cp), FP.eq (.pointer (some ⟨gp, 0, none⟩)), FP.eq (.agg (x0.map cb).toArray), FP.eq (.slice (some ⟨gq, 0, none⟩) 7 cq), FP.eq (.slice (some ⟨gq, 0, none⟩) 4 cq), FP.eq (.agg (x0.map cb).toArray), FP.eq (.bool true), FP.eq (.bool true), FP.eq (.bool true), FP.eq (.pointer (some ⟨g, 0, none⟩)), FP.eq (.agg (x7.map cb).toArray), FP.eq (.slice (some ⟨gq, 0, none⟩) 7 cq), FP.eq (.agg (x7.map cb).toArray), FP.eq (.bool true), FP.eq (.bool true)] ?_ ?_
      · refine allFrom_cons ?_ ?_
        · intro a_ w_ hk_
          have h1 : a_.eval (.tmp 1) = .pointer (some ⟨g, 0, none⟩) := hk_.old 1 (by kernel_rfl)
          have hx_ := hk_.ext
          clear hk_
          refine flow_plain rfl ?_
          exact gives_move rfl ⟨Below.refl _ _, h1⟩
        refine allFrom_cons ?_ ?_
        · intro a_ w_ hk_
          have h25 : a_.eval (.tmp 25) = (.pointer (some ⟨g, 0, none⟩)) := hk_.got 0 25 _ (by kernel_rfl) rfl rfl
          have hx_ := hk_.ext
          clear hk_
          refine flow_plain rfl ?_
          unfold gives
          have hc_ : ∀ v, a_.eval (.const v) = v := fun _ => rfl
          have hn_ : ∀ f, a_.eval (.func f) = .func (.func f) #[] #[] := fun _ => rfl
          generalize a_.eval = ρ_ at *
          go_simp
          exact (Size_any w_ (HF5.out.below hx_)).mono fun e w' hh => ⟨_, hh.1, by rw [hh.2]; exact Below.refl _ _, rfl⟩
        refine allFrom_cons ?_ ?_
        · intro a_ w_ hk_
          have h26 : a_.eval (.tmp 26) = (.int .u64 7) := hk_.got 1 26 _ (by kernel_rfl) rfl rfl
          have hx_ := hk_.ext
          clear hk_
          refine flow_plain rfl ?_
          unfold gives
          have hc_ : ∀ v, a_.eval (.const v) = v := fun _ => rfl
          have hn_ : ∀ f, a_.eval (.func f) = .func (.func f) #[] #[] := fun _ => rfl
          generalize a_.eval = ρ_ at *
          go_simp
          exact ⟨Below.refl _ _, rfl⟩
        refine allFrom_cons ?_ ?_
        · intro a_ w_ hk_
          have h27 : a_.eval (.tmp 27) = (.bool true) := hk_.got 2 27 _ (by kernel_rfl) rfl rfl
          have hx_ := hk_.ext
          clear hk_
          refine flow_plain rfl ?_
          exact gives_move rfl ⟨Below.refl _ _, h27⟩
        refine allFrom_cons ?_ ?_
        · intro a_ w_ hk_
          have h4 : a_.eval (.tmp 4) = .slice (some ⟨gp, 0, none⟩) 3 cp := hk_.old 4 (by kernel_rfl)
          have hg_ : a_.eval (.tmp 28) = .bool true := hk_.got 3 28 _ (by kernel_rfl) rfl rfl
          have hy_ := hk_.want 3 _ 28 true rfl rfl hg_
          have hx_ := hk_.ext
          clear hk_
          refine flow_want rfl hy_ ?_
          exact gives_move rfl ⟨Below.refl _ _, h4⟩
        refine allFrom_cons ?_ ?_
        · intro a_ w_ hk_
          have h29 : a_.eval (.tmp 29) = (.slice (some ⟨gp, 0, none⟩) 3 cp) := hk_.got 4 29 _ (by kernel_rfl) rfl rfl
          have hg_ : a_.eval (.tmp 28) = .bool true := hk_.got 3 28 _ (by kernel_rfl) rfl rfl
          have hy_ := hk_.want 3 _ 28 true rfl rfl hg_
          have hx_ := hk_.ext
          clear hk_
          refine flow_want rfl hy_ ?_
          unfold gives
          have hc_ : ∀ v, a_.eval (.const v) = v := fun _ => rfl
          have hn_ : ∀ f, a_.eval (.func f) = .func (.func f) #[] #[] := fun _ => rfl
          clear hy_ hg_
          generalize a_.eval = ρ_ at *
          go_simp
          exact ⟨Below.refl _ _, rfl⟩
        refine allFrom_cons ?_ ?_
        · intro a_ w_ hk_
          have h30 : a_.eval (.tmp 30) = (.int .i64 3) := hk_.got 5 30 _ (by kernel_rfl) rfl rfl
          have hg_ : a_.eval (.tmp 28) = .bool true := hk_.got 3 28 _ (by kernel_rfl) rfl rfl
          have hy_ := hk_.want 3 _ 28 true rfl rfl hg_
          have hx_ := hk_.ext
          clear hk_
          refine flow_want rfl hy_ ?_
          unfold gives
          have hc_ : ∀ v, a_.eval (.const v) = v := fun _ => rfl
          have hn_ : ∀ f, a_.eval (.func f) = .func (.func f) #[] #[] := fun _ => rfl
          clear hy_ hg_
          generalize a_.eval = ρ_ at *
          go_simp
          exact ⟨Below.refl _ _, rfl⟩
        refine allFrom_cons ?_ ?_
        · intro a_ w_ hk_
          have h28 : a_.eval (.tmp 28) = (.bool true) := hk_.got 3 28 _ (by kernel_rfl) rfl rfl
          have h31 : a_.eval (.tmp 31) = (.bool true) := hk_.got 6 31 _ (by kernel_rfl) rfl rfl
          have hx_ := hk_.ext
          clear hk_
          refine flow_plain rfl ?_
          exact gives_pick rfl h28 ⟨Below.refl _ _, h31⟩
        refine allFrom_cons ?_ ?_
        · intro a_ w_ hk_
          have h32 : a_.eval (.tmp 32) = (.bool true) := hk_.got 7 32 _ (by kernel_rfl) rfl rfl
          have hx_ := hk_.ext
          clear hk_
          refine flow_plain rfl ?_
          exact gives_move rfl ⟨Below.refl _ _, h32⟩
        refine allFrom_cons ?_ ?_
        · intro a_ w_ hk_
          have h4 : a_.eval (.tmp 4) = .slice (some ⟨gp, 0, none⟩) 3 cp := hk_.old 4 (by kernel_rfl)
          have hg_ : a_.eval (.tmp 33) = .bool true := hk_.got 8 33 _ (by kernel_rfl) rfl rfl
          have hy_ := hk_.want 8 _ 33 true rfl rfl hg_
          have hx_ := hk_.ext
          clear hk_
          refine flow_want rfl hy_ ?_
          exact gives_move rfl ⟨Below.refl _ _, h4⟩
        refine allFrom_cons ?_ ?_
        · intro a_ w_ hk_
          have h34 : a_.eval (.tmp 34) = (.slice (some ⟨gp, 0, none⟩) 3 cp) := hk_.got 9 34 _ (by kernel_rfl) rfl rfl
          have hg_ : a_.eval (.tmp 33) = .bool true := hk_.got 8 33 _ (by kernel_rfl) rfl rfl
          have hy_ := hk_.want 8 _ 33 true rfl rfl hg_
          have hx_ := hk_.ext
          clear hk_
          refine flow_want rfl hy_ ?_
          unfold gives
          have hc_ : ∀ v, a_.eval (.const v) = v := fun _ => rfl
          have hn_ : ∀ f, a_.eval (.func f) = .func (.func f) #[] #[] := fun _ => rfl
          clear hy_ hg_
          generalize a_.eval = ρ_ at *
          go_simp
          exact ⟨Below.refl _ _, rfl⟩
        refine allFrom_cons ?_ ?_
        · intro a_ w_ hk_
          have h35 : a_.eval (.tmp 35) = (.pointer (some ⟨gp, 64, none⟩)) := hk_.got 10 35 _ (by kernel_rfl) rfl rfl
          have hg_ : a_.eval (.tmp 33) = .bool true := hk_.got 8 33 _ (by kernel_rfl) rfl rfl
          have hy_ := hk_.want 8 _ 33 true rfl rfl hg_
          have hx_ := hk_.ext
          clear hk_
          refine flow_want rfl hy_ ?_
          exact gives_ldC rfl h35 a2 (fun i v hv => (hx_.cell (p := ⟨gp, 64 + i, none⟩) hgpl).trans (HC2.out i v hv)) ⟨Below.refl _ _, rfl⟩
        refine allFrom_cons ?_ ?_
        · intro a_ w_ hk_
          have hg_ : a_.eval (.tmp 33) = .bool true := hk_.got 8 33 _ (by kernel_rfl) rfl rfl
          have hy_ := hk_.want 8 _ 33 true rfl rfl hg_
          have hx_ := hk_.ext
          clear hk_
          refine flow_want rfl hy_ ?_
          unfold gives
          have hc_ : ∀ v, a_.eval (.const v) = v := fun _ => rfl
          have hn_ : ∀ f, a_.eval (.func f) = .func (.func f) #[] #[] := fun _ => rfl
          clear hy_ hg_
          generalize a_.eval = ρ_ at *
          go_simp
          exact ⟨bx_alloc (Below.refl _ _) _, _, _, rfl, Nat.le_refl _, rd_of_row (heap_new rfl) rfl⟩
        refine allFrom_cons ?_ ?_
        · intro a_ w_ hk_
          have h37 : (FP.bytes [(6 : UInt8)]).p (a_.eval (.tmp 37)) w_ := hk_.got 12 37 _ (by kernel_rfl) rfl rfl
          have hg_ : a_.eval (.tmp 33) = .bool true := hk_.got 8 33 _ (by kernel_rfl) rfl rfl
          have hy_ := hk_.want 8 _ 33 true rfl rfl hg_
          have hx_ := hk_.ext
          clear hk_
          refine flow_want rfl hy_ ?_
          unfold gives
          have hc_ : ∀ v, a_.eval (.const v) = v := fun _ => rfl
          have hn_ : ∀ f, a_.eval (.func f) = .func (.func f) #[] #[] := fun _ => rfl
          clear hy_ hg_
          obtain ⟨A37, c37, h37, m37, r37⟩ := h37
          generalize a_.eval = ρ_ at *
          go_simp
          exact (Leaf_any w_ (HLW.out.below hx_) (l := [6]) r37 (Nat.le_refl _) m37 (by decide)).mono fun e w' hh => ⟨_, hh.1, hh.2, by rw [← H6.out]; rfl⟩
        refine allFrom_cons ?_ ?_
        · intro a_ w_ hk_
          have h36 : a_.eval (.tmp 36) = (.agg (x2.map cb).toArray) := hk_.got 11 36 _ (by kernel_rfl) rfl rfl
          have h38 : a_.eval (.tmp 38) = (.agg (x2.map cb).toArray) := hk_.got 13 38 _ (by kernel_rfl) rfl rfl
          have hg_ : a_.eval (.tmp 33) = .bool true := hk_.got 8 33 _ (by kernel_rfl) rfl rfl
          have hy_ := hk_.want 8 _ 33 true rfl rfl hg_
          have hx_ := hk_.ext
          clear hk_
          refine flow_want rfl hy_ ?_
          unfold gives
          have hc_ : ∀ v, a_.eval (.const v) = v := fun _ => rfl
          have hn_ : ∀ f, a_.eval (.func f) = .func (.func f) #[] #[] := fun _ => rfl
          clear hy_ hg_
          generalize a_.eval = ρ_ at *
          go_simp
          exact ⟨Below.refl _ _, rfl⟩
        refine allFrom_cons ?_ ?_
        · intro a_ w_ hk_
          have h33 : a_.eval (.tmp 33) = (.bool true) := hk_.got 8 33 _ (by kernel_rfl) rfl rfl
          have h39 : a_.eval (.tmp 39) = (.bool true) := hk_.got 14 39 _ (by kernel_rfl) rfl rfl
          have hx_ := hk_.ext
          clear hk_
          refine flow_plain rfl ?_
          exact gives_pick rfl h33 ⟨Below.refl _ _, h39⟩
        refine allFrom_cons ?_ ?_
        · intro a_ w_ hk_
          have h40 : a_.eval (.tmp 40) = (.bool true) := hk_.got 15 40 _ (by kernel_rfl) rfl rfl
          have hx_ := hk_.ext
          clear hk_
          refine flow_plain rfl ?_
          exact gives_move rfl ⟨Below.refl _ _, h40⟩
        refine allFrom_cons ?_ ?_
        · intro a_ w_ hk_
          have h4 : a_.eval (.tmp 4) = .slice (some ⟨gp, 0, none⟩) 3 cp := hk_.old 4 (by kernel_rfl)
          have hg_ : a_.eval (.tmp 41) = .bool true := hk_.got 16 41 _ (by kernel_rfl) rfl rfl
          have hy_ := hk_.want 16 _ 41 true rfl rfl hg_
          have hx_ := hk_.ext
          clear hk_
          refine flow_want rfl hy_ ?_
          exact gives_move rfl ⟨Below.refl _ _, h4⟩
        refine allFrom_cons ?_ ?_
        · intro a_ w_ hk_
          have h42 : a_.eval (.tmp 42) = (.slice (some ⟨gp, 0, none⟩) 3 cp) := hk_.got 17 42 _ (by kernel_rfl) rfl rfl
          have hg_ : a_.eval (.tmp 41) = .bool true := hk_.got 16 41 _ (by kernel_rfl) rfl rfl
          have hy_ := hk_.want 16 _ 41 true rfl rfl hg_
          have hx_ := hk_.ext
          clear hk_
          refine flow_want rfl hy_ ?_
          unfold gives
          have hc_ : ∀ v, a_.eval (.const v) = v := fun _ => rfl
          have hn_ : ∀ f, a_.eval (.func f) = .func (.func f) #[] #[] := fun _ => rfl
          clear hy_ hg_
          generalize a_.eval = ρ_ at *
          go_simp
          exact ⟨Below.refl _ _, rfl⟩
        refine allFrom_cons ?_ ?_
        · intro a_ w_ hk_
          have h43 : a_.eval (.tmp 43) = (.pointer (some ⟨gp, 0, none⟩)) := hk_.got 18 43 _ (by kernel_rfl) rfl rfl
          have hg_ : a_.eval (.tmp 41) = .bool true := hk_.got 16 41 _ (by kernel_rfl) rfl rfl
          have hy_ := hk_.want 16 _ 41 true rfl rfl hg_
          have hx_ := hk_.ext
          clear hk_
          refine flow_want rfl hy_ ?_
          exact gives_ldC rfl h43 a0 (fun i v hv => (hx_.cell (p := ⟨gp, 0 + i, none⟩) hgpl).trans (HC0.out i v hv)) ⟨Below.refl _ _, rfl⟩
        refine allFrom_cons ?_ ?_
        · intro a_ w_ hk_
          have h2 : a_.eval (.tmp 2) = .slice (some ⟨gq, 0, none⟩) 7 cq := hk_.old 2 (by kernel_rfl)
          have hg_ : a_.eval (.tmp 41) = .bool true := hk_.got 16 41 _ (by kernel_rfl) rfl rfl
          have hy_ := hk_.want 16 _ 41 true rfl rfl hg_
          have hx_ := hk_.ext
          clear hk_
          refine flow_want rfl hy_ ?_
          exact gives_move rfl ⟨Below.refl _ _, h2⟩
        refine allFrom_cons ?_ ?_
        · intro a_ w_ hk_
          have h45 : a_.eval (.tmp 45) = (.slice (some ⟨gq, 0, none⟩) 7 cq) := hk_.got 20 45 _ (by kernel_rfl) rfl rfl
          have hg_ : a_.eval (.tmp 41) = .bool true := hk_.got 16 41 _ (by kernel_rfl) rfl rfl
          have hy_ := hk_.want 16 _ 41 true rfl rfl hg_
          have hx_ := hk_.ext
          clear hk_
          refine flow_want rfl hy_ ?_
          unfold gives
          have hc_ : ∀ v, a_.eval (.const v) = v := fun _ => rfl
          have hn_ : ∀ f, a_.eval (.func f) = .func (.func f) #[] #[] := fun _ => rfl
          clear hy_ hg_
          generalize a_.eval = ρ_ at *
          go_simp
          exact ⟨Below.refl _ _, rfl⟩
        refine allFrom_cons ?_ ?_
        · intro a_ w_ hk_
          have h46 : a_.eval (.tmp 46) = (.slice (some ⟨gq, 0, none⟩) 4 cq) := hk_.got 21 46 _ (by kernel_rfl) rfl rfl
          have hg_ : a_.eval (.tmp 41) = .bool true := hk_.got 16 41 _ (by kernel_rfl) rfl rfl
          have hy_ := hk_.want 16 _ 41 true rfl rfl hg_
          have hx_ := hk_.ext
          clear hk_
          refine flow_want rfl hy_ ?_
          unfold gives
          have hc_ : ∀ v, a_.eval (.const v) = v := fun _ => rfl
          have hn_ : ∀ f, a_.eval (.func f) = .func (.func f) #[] #[] := fun _ => rfl
          clear hy_ hg_
          generalize a_.eval = ρ_ at *
          go_simp
          exact (Root_any 4 w_ l4 4 (some ⟨gq, 0, none⟩) cq wr.heap.size H4L.out (Nat.le_refl _) (HLW.out.below hx_) (HR45.out.below (hx_.mono hs5)) (Nat.le_trans hs5 hx_.size) (by omega) (by omega) HL4.out).mono fun e w' hh => ⟨_, hh.1, hh.2, by rw [HT4.out]; rfl⟩
        refine allFrom_cons ?_ ?_
        · intro a_ w_ hk_
          have h44 : a_.eval (.tmp 44) = (.agg (x0.map cb).toArray) := hk_.got 19 44 _ (by kernel_rfl) rfl rfl
          have h47 : a_.eval (.tmp 47) = (.agg (x0.map cb).toArray) := hk_.got 22 47 _ (by kernel_rfl) rfl rfl
          have hg_ : a_.eval (.tmp 41) = .bool true := hk_.got 16 41 _ (by kernel_rfl) rfl rfl
          have hy_ := hk_.want 16 _ 41 true rfl rfl hg_
          have hx_ := hk_.ext
          clear hk_
          refine flow_want rfl hy_ ?_
          unfold gives
          have hc_ : ∀ v, a_.eval (.const v) = v := fun _ => rfl
          have hn_ : ∀ f, a_.eval (.func f) = .func (.func f) #[] #[] := fun _ => rfl
          clear hy_ hg_
          generalize a_.eval = ρ_ at *
          go_simp
          exact ⟨Below.refl _ _, rfl⟩
        refine allFrom_cons ?_ ?_
        · intro a_ w_ hk_
          have h41 : a_.eval (.tmp 41) = (.bool true) := hk_.got 16 41 _ (by kernel_rfl) rfl rfl
          have h48 : a_.eval (.tmp 48) = (.bool true) := hk_.got 23 48 _ (by kernel_rfl) rfl rfl
          have hx_ := hk_.ext
          clear hk_
          refine flow_plain rfl ?_
          exact gives_pick rfl h41 ⟨Below.refl _ _, h48⟩
        refine allFrom_cons ?_ ?_
        · intro a_ w_ hk_
          have h49 : a_.eval (.tmp 49) = (.bool true) := hk_.got 24 49 _ (by kernel_rfl) rfl rfl
          have hx_ := hk_.ext
          clear hk_
          refine flow_plain rfl ?_
          exact gives_move rfl ⟨Below.refl _ _, h49⟩
        refine allFrom_cons ?_ ?_
        · intro a_ w_ hk_
          have h1 : a_.eval (.tmp 1) = .pointer (some ⟨g, 0, none⟩) := hk_.old 1 (by kernel_rfl)
          have hg_ : a_.eval (.tmp 50) = .bool true := hk_.got 25 50 _ (by kernel_rfl) rfl rfl
          have hy_ := hk_.want 25 _ 50 true rfl rfl hg_
          have hx_ := hk_.ext
          clear hk_
          refine flow_want rfl hy_ ?_
          exact gives_move rfl ⟨Below.refl _ _, h1⟩
        refine allFrom_cons ?_ ?_
        · intro a_ w_ hk_
          have h51 : a_.eval (.tmp 51) = (.pointer (some ⟨g, 0, none⟩)) := hk_.got 26 51 _ (by kernel_rfl) rfl rfl
          have hg_ : a_.eval (.tmp 50) = .bool true := hk_.got 25 50 _ (by kernel_rfl) rfl rfl
          have hy_ := hk_.want 25 _ 50 true rfl rfl hg_
          have hx_ := hk_.ext
          clear hk_
          refine flow_want rfl hy_ ?_
          unfold gives
          have hc_ : ∀ v, a_.eval (.const v) = v := fun _ => rfl
          have hn_ : ∀ f, a_.eval (.func f) = .func (.func f) #[] #[] := fun _ => rfl
          clear hy_ hg_
          generalize a_.eval = ρ_ at *
          go_simp
          exact (FRoot_any w_ (HLW.out.below hx_) (HF5.out.below hx_) HON.out (by decide)).mono fun e w' hh => ⟨_, hh.1, hh.2, by rw [HFR.out]; rfl⟩
        refine allFrom_cons ?_ ?_
        · intro a_ w_ hk_
          have h2 : a_.eval (.tmp 2) = .slice (some ⟨gq, 0, none⟩) 7 cq := hk_.old 2 (by kernel_rfl)
          have hg_ : a_.eval (.tmp 50) = .bool true := hk_.got 25 50 _ (by kernel_rfl) rfl rfl
          have hy_ := hk_.want 25 _ 50 true rfl rfl hg_
          have hx_ := hk_.ext
          clear hk_
          refine flow_want rfl hy_ ?_
          exact gives_move rfl ⟨Below.refl _ _, h2⟩
        refine allFrom_cons ?_ ?_
        · intro a_ w_ hk_
          have h53 : a_.eval (.tmp 53) = (.slice (some ⟨gq, 0, none⟩) 7 cq) := hk_.got 28 53 _ (by kernel_rfl) rfl rfl
          have hg_ : a_.eval (.tmp 50) = .bool true := hk_.got 25 50 _ (by kernel_rfl) rfl rfl
          have hy_ := hk_.want 25 _ 50 true rfl rfl hg_
          have hx_ := hk_.ext
          clear hk_
          refine flow_want rfl hy_ ?_
          unfold gives
          have hc_ : ∀ v, a_.eval (.const v) = v := fun _ => rfl
          have hn_ : ∀ f, a_.eval (.func f) = .func (.func f) #[] #[] := fun _ => rfl
          clear hy_ hg_
          generalize a_.eval = ρ_ at *
          go_simp
          exact (Root_any 7 w_ l7 7 (some ⟨gq, 0, none⟩) cq wr.heap.size H7L.out (Nat.le_refl _) (HLW.out.below hx_) (HR5.out.below (hx_.mono hs5)) (Nat.le_trans hs5 hx_.size) (by omega) (by omega) HL7.out).mono fun e w' hh => ⟨_, hh.1, hh.2, by rw [HT7.out]; rfl⟩
        refine allFrom_cons ?_ ?_
        · intro a_ w_ hk_
          have h52 : a_.eval (.tmp 52) = (.agg (x7.map cb).toArray) := hk_.got 27 52 _ (by kernel_rfl) rfl rfl
          have h54 : a_.eval (.tmp 54) = (.agg (x7.map cb).toArray) := hk_.got 29 54 _ (by kernel_rfl) rfl rfl
          have hg_ : a_.eval (.tmp 50) = .bool true := hk_.got 25 50 _ (by kernel_rfl) rfl rfl
          have hy_ := hk_.want 25 _ 50 true rfl rfl hg_
          have hx_ := hk_.ext
          clear hk_
          refine flow_want rfl hy_ ?_
          unfold gives
          have hc_ : ∀ v, a_.eval (.const v) = v := fun _ => rfl
          have hn_ : ∀ f, a_.eval (.func f) = .func (.func f) #[] #[] := fun _ => rfl
          clear hy_ hg_
          generalize a_.eval = ρ_ at *
          go_simp
          exact ⟨Below.refl _ _, rfl⟩
        refine allFrom_cons ?_ ?_
        · intro a_ w_ hk_
          have h50 : a_.eval (.tmp 50) = (.bool true) := hk_.got 25 50 _ (by kernel_rfl) rfl rfl
          have h55 : a_.eval (.tmp 55) = (.bool true) := hk_.got 30 55 _ (by kernel_rfl) rfl rfl
          have hx_ := hk_.ext
          clear hk_
          refine flow_plain rfl ?_
          exact gives_pick rfl h50 ⟨Below.refl _ _, h55⟩
        exact allFrom_nil
      intro f_ w_ hx_ hf_
      have h25 : f_ 25 = (.pointer (some ⟨g, 0, none⟩)) := hf_ 0 25 _ (by decide) rfl rfl
      have h26 : f_ 26 = (.int .u64 7) := hf_ 1 26 _ (by decide) rfl rfl
      have h27 : f_ 27 = (.bool true) := hf_ 2 27 _ (by decide) rfl rfl
      have h28 : f_ 28 = (.bool true) := hf_ 3 28 _ (by decide) rfl rfl
      have h29 : f_ 29 = (.slice (some ⟨gp, 0, none⟩) 3 cp) := hf_ 4 29 _ (by decide) rfl rfl
      have h30 : f_ 30 = (.int .i64 3) := hf_ 5 30 _ (by decide) rfl rfl
      have h31 : f_ 31 = (.bool true) := hf_ 6 31 _ (by decide) rfl rfl
      have h32 : f_ 32 = (.bool true) := hf_ 7 32 _ (by decide) rfl rfl
      have h33 : f_ 33 = (.bool true) := hf_ 8 33 _ (by decide) rfl rfl
      have h34 : f_ 34 = (.slice (some ⟨gp, 0, none⟩) 3 cp) := hf_ 9 34 _ (by decide) rfl rfl
      have h35 : f_ 35 = (.pointer (some ⟨gp, 64, none⟩)) := hf_ 10 35 _ (by decide) rfl rfl
      have h36 : f_ 36 = (.agg (x2.map cb).toArray) := hf_ 11 36 _ (by decide) rfl rfl
      have h37 : (FP.bytes [(6 : UInt8)]).p (f_ 37) w_ := hf_ 12 37 _ (by decide) rfl rfl
      have h38 : f_ 38 = (.agg (x2.map cb).toArray) := hf_ 13 38 _ (by decide) rfl rfl
      have h39 : f_ 39 = (.bool true) := hf_ 14 39 _ (by decide) rfl rfl
      have h40 : f_ 40 = (.bool true) := hf_ 15 40 _ (by decide) rfl rfl
      have h41 : f_ 41 = (.bool true) := hf_ 16 41 _ (by decide) rfl rfl
      have h42 : f_ 42 = (.slice (some ⟨gp, 0, none⟩) 3 cp) := hf_ 17 42 _ (by decide) rfl rfl
      have h43 : f_ 43 = (.pointer (some ⟨gp, 0, none⟩)) := hf_ 18 43 _ (by decide) rfl rfl
      have h44 : f_ 44 = (.agg (x0.map cb).toArray) := hf_ 19 44 _ (by decide) rfl rfl
      have h45 : f_ 45 = (.slice (some ⟨gq, 0, none⟩) 7 cq) := hf_ 20 45 _ (by decide) rfl rfl
      have h46 : f_ 46 = (.slice (some ⟨gq, 0, none⟩) 4 cq) := hf_ 21 46 _ (by decide) rfl rfl
      have h47 : f_ 47 = (.agg (x0.map cb).toArray) := hf_ 22 47 _ (by decide) rfl rfl
      have h48 : f_ 48 = (.bool true) := hf_ 23 48 _ (by decide) rfl rfl
      have h49 : f_ 49 = (.bool true) := hf_ 24 49 _ (by decide) rfl rfl
      have h50 : f_ 50 = (.bool true) := hf_ 25 50 _ (by decide) rfl rfl
      have h51 : f_ 51 = (.pointer (some ⟨g, 0, none⟩)) := hf_ 26 51 _ (by decide) rfl rfl
      have h52 : f_ 52 = (.agg (x7.map cb).toArray) := hf_ 27 52 _ (by decide) rfl rfl
      have h53 : f_ 53 = (.slice (some ⟨gq, 0, none⟩) 7 cq) := hf_ 28 53 _ (by decide) rfl rfl
      have h54 : f_ 54 = (.agg (x7.map cb).toArray) := hf_ 29 54 _ (by decide) rfl rfl
      have h55 : f_ 55 = (.bool true) := hf_ 30 55 _ (by decide) rfl rfl
      have h56 : f_ 56 = (.bool true) := hf_ 31 56 _ (by decide) rfl rfl
      simp only [mix, List.drop_succ_cons, List.drop_zero, h25, h26, h27, h28, h29, h30, h31, h32, h33, h34, h35, h36, h38, h39, h40, h41, h42, h43, h44, h45, h46, h47, h48, h49, h50, h51, h52, h53, h54, h55, h56]
      clear h25 h26 h27 h28 h29 h30 h31 h32 h33 h34 h35 h36 h38 h39 h40 h41 h42 h43 h44 h45 h46 h47 h48 h49 h50 h51 h52 h53 h54 h55 h56
      clear hf_
      have HFIN := hid (bx_trans HB5.out hx_)
      clear hx_
      go_wp2
      go_ret
      exact ⟨rfl, HFIN.out⟩
end Go.Proofs.YtohkfnmggmlogaaDoor
