
/- Records: the calls of a log whose disk does not fail; a new disk; a log just opened. -/
import Derived.Test.YtlpdiamgpnmeoaaWaX
namespace Go.Proofs.Ytlpdiamgpnmeoaa
open Go.RowKit
set_option linter.unusedVariables false
theorem new_dur (n : Nat) (hn : n ≤ 2000) : Dur (newD n).good (sizeD (newD n)) 0 0 [] := by
  refine ⟨fun k => zeros_length, ?_, ?_, (fun p hp => by simp [framL] at hp), (by decide), (fun _ => ⟨rfl, rfl⟩), Nat.zero_le _, (fun r hr => by cases hr), (by decide), ?_⟩
  · show zeros = superL 0 0 (framL []).length
    exact superL_zero.symm
  · exact slot_zeros 0
  · show (n - 2) / 2 ≤ 1000
    omega
theorem runS_loose : ∀ (ss : List (DS → Int × DS)) (k : Nat) (D : DS), (∀ s ∈ ss, ∀ D, (s D).2.loose.length ≤ D.loose.length + k) → (runS ss D).2.loose.length ≤ D.loose.length + ss.length * k
  | [], k, D, _ => by show D.loose.length ≤ _; omega
  | s :: ss, k, D, h => by
    have h1 := h s (by simp) D
    have ih := runS_loose ss k (s D).2 (fun t ht => h t (by simp [ht]))
    show (if (s D).1 = 0 then runS ss (s D).2 else s D).2.loose.length ≤ _
    rw [List.length_cons, Nat.add_mul]
    split <;> omega
theorem app_loose {D : DS} {L : LS} {b : List UInt8} (hf : L.b.length ≤ L.size * 256) : (appS D L b).2.1.loose.length ≤ D.loose.length + L.size := by
  unfold appS
  split
  · show D.loose.length ≤ _; omega
  · split
    · show D.loose.length ≤ _; omega
    · split
      · show D.loose.length ≤ _; omega
      · rename_i hful
        have h1 := layD_loose D (lay0 L L.area L.b.length) (layB (L.b ++ frameL b) L.b.length)
        have h2 : piecesN (layB (L.b ++ frameL b) L.b.length) ≤ L.size := by
          unfold piecesN layB
          rw [List.length_drop, List.length_append, frameL_len]
          omega
        split <;> (show (layD D _ _).loose.length ≤ _; omega)
theorem mark_loose (T a l : Nat) (D : DS) : (markS T a l D).2.loose.length ≤ D.loose.length + 1 := writeD_loose _ _ _
theorem syn_loose (D : DS) (L : LS) : (synS D L).2.1.loose.length ≤ D.loose.length + 3 := by
  have h := runS_loose [dsynS, markS (L.turn + 1) L.area L.b.length, dsynS] 1 D (by
    intro s hs D
    simp only [List.mem_cons, List.not_mem_nil, or_false] at hs
    rcases hs with rfl | rfl | rfl
    · have := syncW_loose D; show (syncW D).loose.length ≤ _; omega
    · exact mark_loose _ _ _ _
    · have := syncW_loose D; show (syncW D).loose.length ≤ _; omega)
  unfold synS
  split
  · show D.loose.length ≤ _; omega
  · split <;> exact h
theorem cmp_loose {D : DS} {L : LS} {rs : List (List UInt8)} : (cmpS D L rs).2.1.loose.length ≤ D.loose.length + 4 * (L.size + 1) := by
  unfold cmpS
  split
  · show D.loose.length ≤ _; omega
  · split
    · show D.loose.length ≤ _; omega
    · split
      · show D.loose.length ≤ _; omega
      · rename_i hful
        have h := runS_loose [layS (lay0 L (1 - L.area) 0) (layB (framL rs) 0), dsynS, markS (L.turn + 1) (1 - L.area) (framL rs).length, dsynS] (L.size + 1) D (by
          intro s hs D
          simp only [List.mem_cons, List.not_mem_nil, or_false] at hs
          rcases hs with rfl | rfl | rfl | rfl
          · have h1 := layD_loose D (lay0 L (1 - L.area) 0) (layB (framL rs) 0)
            have h2 : piecesN (layB (framL rs) 0) ≤ L.size := by
              unfold piecesN layB
              rw [List.length_drop]
              omega
            show (layD D _ _).loose.length ≤ _
            omega
          · have := syncW_loose D; show (syncW D).loose.length ≤ _; omega
          · have := mark_loose (L.turn + 1) (1 - L.area) (framL rs).length D
            omega
          · have := syncW_loose D; show (syncW D).loose.length ≤ _; omega)
        have h3 : (cmpR L rs D).2.loose.length ≤ D.loose.length + 4 * (L.size + 1) := h
        split <;> exact h3
/-- A log over its disk, in memory, and what is there for good. -/
structure Has (w : World) (B gl g : Nat) (D : DS) (L : LS) (rs : List (List UInt8)) : Prop where
  log : ALog w B gl g D L
  inv : LInv D L rs
theorem ALog.disk {w : World} {B gl g : Nat} {D : DS} {L : LS} (h : ALog w B gl g D L) : IsDisk w B g D := by
  obtain ⟨_, _, _, h⟩ := h
  exact h.disk
theorem Has.disk {w : World} {B gl g : Nat} {D : DS} {L : LS} {rs : List (List UInt8)} (h : Has w B gl g D L rs) : IsDisk w B g D := h.log.disk
theorem ALog.below {w w' : World} {B gl g : Nat} {D : DS} {L : LS} (h : ALog w B gl g D L) (hb : Below w.heap.size w w') (hB : B ≤ w.heap.size) : ALog w' B gl g D L := by
  obtain ⟨vb, vr, vs, h⟩ := h
  exact ⟨vb, vr, vs, h.below hb hB⟩
theorem Has.below {w w' : World} {B gl g : Nat} {D : DS} {L : LS} {rs : List (List UInt8)} (h : Has w B gl g D L rs) (hb : Below w.heap.size w w') (hB : B ≤ w.heap.size) : Has w' B gl g D L rs := ⟨h.log.below hb hB, h.inv⟩
theorem Has.size {w : World} {B gl g : Nat} {D : DS} {L : LS} {rs : List (List UInt8)} (h : Has w B gl g D L rs) : L.size ≤ 1000 := h.inv.dur.sz
/-- Append, of a disk that does not fail. -/
theorem cAppend (w : World) {B gl g : Nat} {D : DS} {L : LS} {rs : List (List UInt8)} (h : Has w B gl g D L rs) (hc : D.fails = -1) (hB : B ≤ w.heap.size) (hroom : D.loose.length + L.size * 256 < 1000000) {A : Option Addr} {c : Nat} {b : List UInt8} (hr : ∀ W, XFr exL B w W → Rd W W.heap.size A (b.map cb)) (hbc : b.length ≤ c) (hb : b.length ≤ 16384) (hfit : L.b.length + (8 + b.length) ≤ L.size * 256) :
    Calls Try.prog 13 #[.pointer (some ⟨gl, 0, none⟩), .slice A b.length c] w fun e w' => e = .returned (.int .i64 0) ∧ ∃ D', Has w' B gl g D' { L with b := L.b ++ frameL b, rows := L.rows ++ [b] } rs ∧ D'.fails = -1 ∧ D'.n = D.n ∧ D'.loose.length ≤ D.loose.length + L.size ∧ XFr exA B w w' := by
  refine (Append_any w h.log hB h.size hroom hr hbc (by omega)).mono ?_
  rintro e w' ⟨rfl, hl, hx⟩
  have hlo := app_loose (D := D) (b := b) h.inv.fit
  rcases app_inv h.inv hb with ⟨h1, h2, h3, h4, h5, h6⟩ | ⟨h1, h2, h3⟩ | ⟨h1, h2, h3, h4, h5, h6⟩
  · rw [h4] at hl h3
    exact ⟨by rw [h1], _, ⟨hl, h3⟩, h5 hc, h6, hlo, hx⟩
  · omega
  · exact absurd hc h5
/-- Append, where there is no room, or the record is too big. -/
theorem cAppendNo (w : World) {B gl g : Nat} {D : DS} {L : LS} {rs : List (List UInt8)} (h : Has w B gl g D L rs) (hB : B ≤ w.heap.size) (hroom : D.loose.length + L.size * 256 < 1000000) {A : Option Addr} {c : Nat} {b : List UInt8} (hr : ∀ W, XFr exL B w W → Rd W W.heap.size A (b.map cb)) (hbc : b.length ≤ c) (hb : b.length ≤ 100000) (hfit : 16384 < b.length ∨ L.size * 256 < L.b.length + (8 + b.length)) :
    Calls Try.prog 13 #[.pointer (some ⟨gl, 0, none⟩), .slice A b.length c] w fun e w' => e = .returned (.int .i64 (if 16384 < b.length then 13 else 31)) ∧ Has w' B gl g D L rs ∧ XFr exA B w w' := by
  refine (Append_any w h.log hB h.size hroom hr hbc hb).mono ?_
  rintro e w' ⟨rfl, hl, hx⟩
  have e : appS D L b = (if 16384 < b.length then 13 else 31, D, L) := by
    unfold appS
    rw [if_neg (fun hh => hh h.inv.e)]
    split
    · rfl
    · rw [if_pos (by have := h.inv.fit; omega)]
  rw [e] at hl ⊢
  exact ⟨rfl, ⟨hl, h.inv⟩, hx⟩
/-- Sync, of a disk that does not fail. -/
theorem cSync (w : World) {B gl g : Nat} {D : DS} {L : LS} {rs : List (List UInt8)} (h : Has w B gl g D L rs) (hc : D.fails = -1) (hB : B ≤ w.heap.size) (hroom : D.loose.length < 1000000) (hT : L.turn + 1 < 255) :
    Calls Try.prog 14 #[.pointer (some ⟨gl, 0, none⟩)] w fun e w' => e = .returned (.int .i64 0) ∧ ∃ D' L', Has w' B gl g D' L' L.rows ∧ L'.rows = L.rows ∧ L'.b = L.b ∧ L'.size = L.size ∧ L'.turn ≤ L.turn + 1 ∧ D'.fails = -1 ∧ D'.n = D.n ∧ D'.loose.length ≤ D.loose.length + 3 ∧ XFr exL B w w' := by
  refine (LSync_any w h.log hB h.size hroom (by omega)).mono ?_
  rintro e w' ⟨rfl, hl, hx⟩
  have hlo := syn_loose D L
  rcases syn_inv h.inv hT with ⟨h1, h2, h3, h4, h5, h6, h7, h8⟩ | ⟨h1, h2, h3, h4, h5, h6⟩
  · exact ⟨by rw [h1], _, _, ⟨hl, h2⟩, h3, h4, h5, h6, h7 hc, h8, hlo, hx⟩
  · exact absurd hc h5
/-- Compact, of a disk that does not fail, where there is room. -/
theorem cCompact (w : World) {B gl g : Nat} {D : DS} {L : LS} {rs : List (List UInt8)} (h : Has w B gl g D L rs) (hc : D.fails = -1) (hB : B ≤ w.heap.size) (hroom : D.loose.length + L.size * 256 < 1000000) (hT : L.turn + 1 < 255) {A : Option Addr} {c : Nat} {rs' : List (List UInt8)} (hr : ∀ W, XFr exL B w W → RdBB W W.heap.size A rs') (hn : rs'.length ≤ 100) (hsh : ∀ r ∈ rs', r.length ≤ 16384) (hfit : (framL rs').length ≤ L.size * 256) :
    Calls Try.prog 21 #[.pointer (some ⟨gl, 0, none⟩), .slice A rs'.length c] w fun e w' => e = .returned (.int .i64 0) ∧ ∃ D', Has w' B gl g D' { L with turn := L.turn + 1, area := 1 - L.area, b := framL rs', rows := rs', sure := rs'.length } rs' ∧ D'.fails = -1 ∧ D'.n = D.n ∧ D'.loose.length ≤ D.loose.length + 4 * (L.size + 1) ∧ XFr exL B w w' := by
  refine (Compact_any w h.log hB h.size hroom (by omega) hr hn (fun r hr' => by have := hsh r hr'; omega)).mono ?_
  rintro e w' ⟨rfl, hl, hx⟩
  have hlo := cmp_loose (D := D) (L := L) (rs := rs')
  rcases cmp_inv h.inv hT hsh with ⟨h1, h2, h3, h4, h5, h6⟩ | ⟨h1, h2, h3⟩ | ⟨h1, h2, h3, h4, h5, h6⟩
  · rw [h4] at hl h3
    exact ⟨by rw [h1], _, ⟨hl, h3⟩, h5 hc, h6, hlo, hx⟩
  · omega
  · exact absurd hc h5
/-- Open, of a disk of which nothing is loose. -/
theorem cOpen (w : World) {B g : Nat} {D : DS} (hd : IsDisk w B g D) (hB : B ≤ w.heap.size) (hn : 4 ≤ D.n) (hdead : D.dead = false) (hlo : D.loose = []) {T a : Nat} {rs : List (List UInt8)} (h : Dur D.good (sizeD D) T a rs) :
    Calls Try.prog 12 #[.pointer (some ⟨g, 0, none⟩)] w fun e w' => ∃ gl, e = .returned (.tuple #[.pointer (some ⟨gl, 0, none⟩), .int .i64 0]) ∧ Has w' B gl g D { size := sizeD D, turn := T, area := a, b := framL rs, rows := rs, sure := rs.length, e := 0 } rs ∧ Below w.heap.size w w' := by
  have hok : D.Ok := hd.choose_spec.choose_spec.choose_spec.ok
  obtain ⟨ho1, ho2⟩ := open_dur hok hlo h
  refine (Open_any w hd hB hn hdead).mono ?_
  rintro e w' ⟨hb, p, rfl, _, h3⟩
  obtain ⟨gl, rfl, hl⟩ := h3 ho2
  rw [ho1] at hl
  refine ⟨gl, by rw [ho2], ⟨hl, LInv.opened hlo hdead hn rfl h⟩, hb⟩
theorem crash_n (D : DS) (front : List UInt8) : (crashD D front).n = D.n := rfl
theorem crash_size (D : DS) (front : List UInt8) : sizeD (crashD D front) = sizeD D := rfl
/-- Free, Sure, Err, Records of a log. -/
theorem aFree (w : World) {B gl g : Nat} {D : DS} {L : LS} (h : ALog w B gl g D L) (hs : L.size ≤ 1000) : Calls Try.prog 20 #[.pointer (some ⟨gl, 0, none⟩)] w fun e w' => e = .returned (.int .i64 ((L.size * 256 - L.b.length : Nat) : Int)) ∧ Below w.heap.size w w' := by
  obtain ⟨_, _, _, h⟩ := h
  exact Free_any w h (by omega)
theorem aSure (w : World) {B gl g : Nat} {D : DS} {L : LS} (h : ALog w B gl g D L) : Calls Try.prog 19 #[.pointer (some ⟨gl, 0, none⟩)] w fun e w' => e = .returned (.int .i64 (L.sure : Int)) ∧ w = w' := by
  obtain ⟨_, _, _, h⟩ := h
  exact Sure_any w h
theorem aErr (w : World) {B gl g : Nat} {D : DS} {L : LS} (h : ALog w B gl g D L) : Calls Try.prog 22 #[.pointer (some ⟨gl, 0, none⟩)] w fun e w' => e = .returned (.int .i64 L.e) ∧ w = w' := by
  obtain ⟨_, _, _, h⟩ := h
  exact LErr_any w h
theorem aRecords (w : World) {B gl g : Nat} {D : DS} {L : LS} (h : ALog w B gl g D L) (hs : L.size ≤ 1000) : Calls Try.prog 17 #[.pointer (some ⟨gl, 0, none⟩)] w (RecPost w L.rows) := by
  obtain ⟨_, _, _, h⟩ := h
  exact Records_any w h (by have h1 := h.many; have h2 := h.len; omega)
theorem RowsAt.bb {w : World} {B : Nat} {v : Value} {vs : List Value} {rs : List (List UInt8)} (h : RowsAt w B v vs rs) : ∃ A c, v = .slice A rs.length c ∧ rs.length ≤ c ∧ c ≤ maxLen ∧ RdBB w w.heap.size A rs := by
  obtain ⟨A, c, rfl, h1, h2, h3⟩ := own_form h.own
  refine ⟨A, c, rfl, h1, h2, ?_⟩
  have hlen := h.len
  rcases h3 with h3 | ⟨b, off, e, hlt, hc⟩
  · left
    rw [h3] at hlen
    exact List.eq_nil_of_length_eq_zero hlen.symm
  · refine .inr ⟨b, off, e, hlt, fun i l hl => ?_⟩
    have hi : i < vs.length := by rw [hlen]; exact (List.getElem?_eq_some_iff.1 hl).1
    exact ⟨vs[i], hc i _ (List.getElem?_eq_getElem hi), (h.rd i vs[i] l (List.getElem?_eq_getElem hi) hl).rd⟩
end Go.Proofs.Ytlpdiamgpnmeoaa
