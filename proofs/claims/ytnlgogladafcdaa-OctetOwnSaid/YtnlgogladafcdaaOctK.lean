/- OctetOwn: its walk. -/
import Derived.Test.YtnlgogladafcdaaOctJ
namespace Go.Proofs.Ytnlgogladafcdaa
open Go.RowKit
set_option linter.unusedVariables false
/-- '[]byte(s)'. -/
theorem bytes_of (w : World) (l : List UInt8) (hl : l.length ≤ 1000000) : ∃ (cap : Nat) (C : Array Value) (w2 : World), (convert 9 23 (.string ⟨l.toArray⟩)).run Try.prog w = .ok (.slice (some ⟨w.heap.size, 0, none⟩) l.length cap) w2 ∧
    w2.heap[w.heap.size]? = some (.cells C 5 (C.size, C.size + 1)) ∧ (∀ (i : Nat) (v : Value), (l.map cb)[i]? = some v → C[i]? = some v) ∧ l.length ≤ C.size ∧ Below w.heap.size w w2 ∧ l.length ≤ cap ∧ cap ≤ maxLen ∧ w.heap.size < w2.heap.size := by
  have h := run_bytes_of_string (P := Try.prog) w 9 23 5 ⟨l.toArray⟩ Try.underlying9 Try.underlying23 Try.underlying5
  have hs : (⟨l.toArray⟩ : ByteArray).size = l.length := by simp [ByteArray.size]
  have hge := grownCap_ge w l.length 0 5
  have hle := grownCap_le_maxLen w l.length 0 5 (by unfold maxLen; omega)
  rw [hs] at h
  refine ⟨_, _, _, h, heap_new (w := w.drew) (by simp), fun i v hv => ?_, ?_, bx_alloc (bx_drew (Below.refl _ _)) _, hge, hle, by simp⟩
  · have hi : i < l.length := by
      have := (List.getElem?_eq_some_iff.1 hv).1
      rwa [List.length_map] at this
    rw [bytesRow_at _ _ i (by simpa using hi), ← hv]
    simp [hi, cb]
  · have := hge
    simp [bytesRow]
theorem frozen_past {w : World} {g : Nat} {cs : Array Value} {t : TypeId} {a b i : Nat} (h : w.heap[g]? = some (.cells cs t (a, b))) (hi : i < a) : w.frozen? ⟨g, i, none⟩ = false := by
  simp [World.frozen?, h]
  omega
/-- A block below the writer's is written. -/
theorem IsW.low {w : World} {B g gi i : Nat} {l : List UInt8} {A : Option Addr} {c : Nat} {v : Value} (h : IsW w B g l A c) (hlo : gi < B) : IsW (w.setCell ⟨gi, i, none⟩ v) B g l A c := by
  have hg := h.gB
  have hne : (Value.slice A l.length c).ownBlock ≠ some gi := fun e => by have := (h.own.lt gi e).1; omega
  refine ⟨(heap_setCell_other w _ g v (by show g ≠ gi; omega)).trans h.blk, h.own.kept (row := some gi) ⟨rfl, rfl, rfl, by simp [World.setCell], fun k _ hk => heap_setCell_other w _ k v (fun e => hk (by rw [e]))⟩ (.inr hne), hg⟩
set_option maxHeartbeats 400000 in
theorem NewReader_own (w : World) {A : Option Addr} {c B' : Nat} {l : List UInt8} (hr : Rd w B' A (l.map cb)) (hl : l.length ≤ 1000000000) :
    Calls Try.prog 20 #[.slice A l.length c] w fun e w' => ∃ g A1 c1, e = .returned (.pointer (some ⟨g, 0, none⟩)) ∧ IsR w' g ⟨l, 0⟩ A1 c1 ∧ (∀ a, l ≠ [] → A1 = some a → w.heap.size ≤ a.block) ∧ w.heap.size ≤ g ∧ Below w.heap.size w w' := by
  go_enter Try.func20, Try.ntmps20
  go_wp2_with fail
  refine (Clone_any w hr hl).mono ?_
  rintro e w1 ⟨v, rfl, hown, hb⟩
  obtain ⟨A1, c1, rfl, hc1, hm1, hrd1⟩ := own_form hown
  have hout1 := own_out hown rfl
  have hlow : ∀ a, l ≠ [] → A1 = some a → w.heap.size ≤ a.block := by
    intro a hne e
    subst e
    exact (hown.lt a.block rfl).1
  clear hown
  go_wp2
  go_ret
  have hb2 : Below w1.heap.size w1 (w1.alloc (.cells #[.slice A1 l.length c1, .int .i64 0] tRd)) := bx_alloc (Below.refl _ _) _
  exact ⟨w1.heap.size, A1, c1, rfl, ⟨Blk.new w1 tRd #[.slice A1 l.length c1, .int .i64 0], (hrd1.below hb2).more hb2.size, hc1, hm1, fun a e => by
    obtain ⟨cs, fr, hh⟩ := hout1 a e
    exact ⟨cs, fr, (hb2.block _ (Array.getElem?_eq_some_iff.1 hh).1).trans hh⟩⟩, hlow, hb.size, bx_trans hb hb2⟩
/-- A block that is none of the reader's is written. -/
theorem IsR.low {w : World} {g gi i : Nat} {s : RS} {A : Option Addr} {c : Nat} {v : Value} (h : IsR w g s A c) (hg : g ≠ gi) (hA : ∀ a, A = some a → a.block ≠ gi) : IsR (w.setCell ⟨gi, i, none⟩ v) g s A c := by
  have hgr : w.grownBy (w.setCell ⟨gi, i, none⟩ v) (some gi) := ⟨rfl, rfl, rfl, by simp [World.setCell], fun k _ hk => heap_setCell_other w _ k v (fun e => hk (by rw [e]))⟩
  exact ⟨(heap_setCell_other w _ g v hg).trans h.blk, (h.rd.grown hgr hA).more hgr.size, h.len, h.cap, out_grown h.out hgr hA⟩
set_option maxRecDepth 100000 in
set_option maxHeartbeats 1000000 in
theorem OctetOwn_walk (w : World) (A0 : Option Addr) (c0 : Nat) (l0 : List UInt8) (hc0 : l0.length ≤ c0) (hm0 : c0 ≤ maxLen) (hr0 : Rd w w.heap.size A0 (l0.map cb)) (x : Int) (hx : (Lit.int .u8 x).wf = true) :
    Calls Try.prog 9 #[.slice A0 l0.length c0, .int .u8 x] w fun e w' => e = .returned (.bool true) ∧ Below w.heap.size w w' := by
  unfold maxLen at hm0
  have hxb := bounds_u8 hx
  clear hx
  go_enter Try.func9, Try.ntmps9
  go_wp2_with fail
  refine (awake_any w).mono ?_
  rintro e w1 ⟨rfl, hb1⟩
  have HR := hid hr0
  clear hr0
  obtain ⟨n, hn⟩ : ∃ n, n = l0.length := ⟨_, rfl⟩
  rw [← hn] at hc0 ⊢
  by_cases h0 : n = 0
  · clear hn
    subst h0
    go_wp2
    go_ret
    exact ⟨rfl, hb1⟩
  have e0 : ((n : Int) == 0) = false := by simpa using h0
  by_cases hs0 : 100 < n
  · clear h0 hn
    go_wp2
    go_ret
    exact ⟨rfl, hb1⟩
  by_cases hx0 : x = 0
  · subst hx0
    clear h0 hn
    go_wp2
    go_ret
    exact ⟨rfl, hb1⟩
  have ex : (x == 0) = false := by simpa using hx0
  have hcs := conv_str (P := Try.prog) (src := 23) (dst := 9) Try.underlying23 Try.underlying5 Try.underlying9 c0 (HR.out.below hb1)
  rw [← hn] at hcs
  obtain ⟨cap, C, w2, hcb, hhe, hC, hCn, hb2, hnc, hcm, hw12⟩ := bytes_of w1 l0 (by omega)
  rw [← hn] at hcb hCn hnc
  have HN := hid hn
  have hn1 : n ≤ l0.length := by omega
  have hn2 : l0.length ≤ n := by omega
  have hn3 : 0 < n := by omega
  clear h0 hx0 hn
  have hb02 := bx_trans hb1 hb2
  have hrdi : Rd w2 w2.heap.size (some ⟨w1.heap.size, 0, none⟩) (l0.map cb) := by
    refine .inr ⟨w1.heap.size, 0, rfl, hw12, fun i v hv => ?_⟩
    rw [Nat.zero_add, cell_of_row w2 _ i C _ _ hhe]
    exact hC i v hv
  obtain ⟨gi, hgi⟩ : ∃ gi, gi = w1.heap.size := ⟨_, rfl⟩
  rw [← hgi] at hcb hhe hrdi hw12
  have hgiw : w.heap.size ≤ gi := by have := hb1.size; omega
  have h0l : 0 < l0.length := by rw [← HN.out]; omega
  have hCz : C[0]? = some (.int .u8 (l0[0].toNat : Int)) := hC 0 _ (by simp [cb, h0l])
  have hC1 : 0 < C.size := by omega
  clear hC hgi
  go_wp2_with fail
  clear hcs hcb
  refine (NewWriter_any w2).mono ?_
  rintro e w3 ⟨g, rfl, hW3, hb3⟩
  have hb03 := bx_trans hb02 hb3
  go_wp2_with fail
  rw [HN.out]
  refine (WRaw_any w3 hW3 (hrdi.below hb3) hb3.size (by simp; omega)).mono ?_
  rintro e w4 ⟨rfl, A4, c4, hG4⟩
  rw [List.nil_append] at hG4
  rw [← HN.out]
  have hb4 := hb3.trans hG4.below
  have hb04 := bx_trans hb02 hb4
  have hh4 := (hb4.block gi hw12).trans hhe
  have hcell : w4.cell? ⟨gi, 0, none⟩ = some (.int .u8 (l0[0].toNat : Int)) := (cell_of_row w4 gi 0 C _ _ hh4).trans hCz
  have hfz := frozen_past hh4 (i := 0) hC1
  have hy8 := l0[0].toNat_lt
  generalize l0[0].toNat = y at *
  have hW4 := hG4.isW
  have hWl := fun v => hW4.low (gi := gi) (i := 0) (v := v) hw12
  have hbl := fun v => bx_setCell hb04 (p := ⟨gi, 0, none⟩) hgiw v
  have HWL := hid hWl
  have HBL := hid hbl
  clear hWl hbl hW4 hG4 hW3 hb3 hb4 hb2 hb02 hb03 hhe hrdi hCz
  go_wp2_with fail
  generalize hw5 : w4.setCell ⟨gi, 0, none⟩ _ = w5 at *
  have hW5 : IsW w5 w2.heap.size g l0 A4 c4 := by rw [← hw5]; exact HWL.out _
  have hb05 : Below w.heap.size w w5 := by rw [← hw5]; exact HBL.out _
  clear hw5 HWL HBL hcell hfz hh4 hb04
  refine (Out_any w5 hW5 (by rw [← HN.out]; omega)).mono ?_
  rintro e w6 ⟨v, rfl, hown, hb6⟩
  have hb06 := bx_trans hb05 hb6
  obtain ⟨go, cap6, hv6, hgo, hgol, hncap, hcapl⟩ := own_block hown (by rw [← HN.out]; omega)
  subst hv6
  have hrd6 := own_rd hown
  have hcs1 := conv_str (P := Try.prog) (src := 23) (dst := 9) Try.underlying23 Try.underlying5 Try.underlying9 cap6 hrd6
  have hcs2 := conv_str (P := Try.prog) (src := 23) (dst := 9) Try.underlying23 Try.underlying5 Try.underlying9 c0 (HR.out.below hb06)
  rw [← HN.out] at hcs1 hcs2 ⊢
  go_wp2_with fail
  clear hcs1 hcs2
  rw [HN.out]
  refine (NewReader_own w6 hrd6 (by omega)).mono ?_
  rintro e w7 ⟨gr, Ar, cr, rfl, hR7, hlow7, hgr, hb7⟩
  rw [← HN.out]
  have hb07 := bx_trans hb06 hb7
  have hW7 := (hW5.below hb6).below hb7
  obtain ⟨cur, hcur⟩ : ∃ cur, w6.heap[go]? = some (.cells cur 5 (0, 0)) := by
    rcases hown.2 with ⟨h1, _⟩ | ⟨g', cp, cu, h1, _, hh, _⟩
    · cases h1
    · injection h1 with h1
      injection h1 with h1
      injection h1 with h1
      subst h1
      exact ⟨cu, hh⟩
  have hcur7 : Blk w7 go 5 cur := (hb7.block go hgol).trans hcur
  have hrd7 := hrd6.below hb7
  have hgz : w7.cell? ⟨go, 0, none⟩ = some (.int .u8 (l0[0].toNat : Int)) := by
    obtain ⟨b, off, he, hbb, hd⟩ := hrd7.at_ (k := 0) (by rw [List.length_map]; omega)
    injection he with he
    injection he with h1 h2
    subst h1 h2
    exact hd 0 _ (by simp [cb, h0l])
  have hfz := hcur7.frozen 0
  have hgw : go ≠ g := by have := hW5.blk.lt; omega
  have hW8 : ∀ v, IsW (w7.setCell ⟨go, 0, none⟩ v) w2.heap.size g l0 A4 c4 := by
    intro v
    have hne : (Value.slice A4 l0.length c4).ownBlock ≠ some go := fun e => by have := (hW5.own.lt go e).2; omega
    exact ⟨(heap_setCell_other w7 _ g v (fun e => hgw e.symm)).trans hW7.blk, hW7.own.kept (row := some go) ⟨rfl, rfl, rfl, by simp [World.setCell], fun k _ hk => heap_setCell_other w7 _ k v (fun e => hk (by rw [e]))⟩ (.inr hne), hW7.gB⟩
  have hR8 : ∀ v, IsR (w7.setCell ⟨go, 0, none⟩ v) gr ⟨l0, 0⟩ Ar cr := fun v => hR7.low (by omega) (fun a e => by have := hlow7 a (by intro e2; rw [e2] at h0l; simp at h0l) e; omega)
  have hb8 := fun v => bx_setCell hb07 (p := ⟨go, 0, none⟩) (by have := hb05.size; show w.heap.size ≤ go; omega) v
  have HW8 := hid hW8
  have HR8 := hid hR8
  have HB8 := hid hb8
  generalize l0[0].toNat = y2 at *
  clear hW8 hR8 hb8 hcur hcur7 hrd7 hrd6 hown hW7 hR7 hlow7 hb7 hW5 hb6 hb06
  go_wp2_with fail
  generalize hw8 : w7.setCell ⟨go, 0, none⟩ _ = w8 at *
  have hW : IsW w8 w2.heap.size g l0 A4 c4 := by rw [← hw8]; exact HW8.out _
  have hR : IsR w8 gr ⟨l0, 0⟩ Ar cr := by rw [← hw8]; exact HR8.out _
  have hb08 : Below w.heap.size w w8 := by rw [← hw8]; exact HB8.out _
  have hgrw : w.heap.size ≤ gr := by have := hb05.size; omega
  clear hw8 HW8 HR8 HB8 hgz hfz hb07 hb05
  refine (Out_any w8 hW (by rw [← HN.out]; omega)).mono ?_
  rintro e w9 ⟨v9, rfl, hown9, hb9⟩
  have hv9 := own_slO hown9
  have hR9 := hR.below hb9
  have hb09 := bx_trans hb08 hb9
  clear hown9 hW hR hb9
  obtain ⟨A9, c9, rfl, hc9, hm9, hrd9, hout9⟩ := hv9
  rw [← HN.out]
  go_wp2_with fail
  rw [HN.out]
  refine (RRaw_any w9 hR9 (l0.length : Int) (by omega) (by show l0.length ≤ _; omega)).mono ?_
  rintro e w10 ⟨v10, rfl, hv10, hR10, hG10⟩
  have hraw := (raw_all l0 []).1
  rw [List.append_nil] at hraw
  rw [hraw] at hv10
  have hv9' : SlO w10 (.slice A9 l0.length c9) l0 := SlO.grown ⟨A9, c9, rfl, hc9, hm9, hrd9, hout9⟩ ⟨Ar, cr, hR9⟩ hG10
  have hb10 := hb09.trans (below_rg hG10 hgrw hb09.size)
  obtain ⟨A9', c9', e9, _, _, hrdA, _⟩ := hv9'
  injection e9 with e1 _ e3
  subst e1 e3
  obtain ⟨A10, c10, rfl, _, _, hrdB, _⟩ := hv10
  have hcs1 := conv_str (P := Try.prog) (src := 23) (dst := 9) Try.underlying23 Try.underlying5 Try.underlying9 c9 hrdA
  have hcs2 := conv_str (P := Try.prog) (src := 23) (dst := 9) Try.underlying23 Try.underlying5 Try.underlying9 c10 hrdB
  have hcs3 := conv_str (P := Try.prog) (src := 23) (dst := 9) Try.underlying23 Try.underlying5 Try.underlying9 c0 (HR.out.below hb10)
  clear hrdA hrdB hrd9 hraw hR9 hR10
  rw [← HN.out] at hcs1 hcs2 hcs3 ⊢
  go_wp2
  go_ret
  exact ⟨ret_val (by simp), hb10⟩
end Go.Proofs.Ytnlgogladafcdaa
