
/- Records: Append, whatever it is told. -/
import Derived.Test.YtlpdiamgpnmeoaaWaO
namespace Go.Proofs.Ytlpdiamgpnmeoaa
open Go.RowKit
set_option linter.unusedVariables false
set_option maxRecDepth 100000 in
set_option maxHeartbeats 2000000 in
theorem Append_any (w : World) {B gl g : Nat} {D : DS} {L : LS} (h : ALog w B gl g D L) (hB : B ≤ w.heap.size) (hs : L.size ≤ 1000) (hroom : D.loose.length + L.size * 256 < 1000000) {A : Option Addr} {c : Nat} {b : List UInt8} (hr : ∀ W, XFr exL B w W → Rd W W.heap.size A (b.map cb)) (hbc : b.length ≤ c) (hl : b.length ≤ 100000) :
    Calls Try.prog 13 #[.pointer (some ⟨gl, 0, none⟩), .slice A b.length c] w fun e w' => e = .returned (.int .i64 (appS D L b).1) ∧ ALog w' B gl g (appS D L b).2.1 (appS D L b).2.2 ∧ XFr exA B w w' := by
  obtain ⟨vb, vr, vs, h⟩ := h
  by_cases he : L.e = 0
  · by_cases hbig : b.length ≤ 16384
    · by_cases hful : 8 + b.length ≤ L.size * 256 - L.b.length
      · exact Append_go w h hB hs hroom hr hbc hl he hbig hful
      · have happ : appS D L b = (31, D, L) := by unfold appS; rw [if_neg (fun hh => hh he), if_neg (by omega), if_pos (by omega)]
        have hc7 : w.cell? ⟨gl, 7, none⟩ = some (.int .i64 0) := by rw [h.blk.cell 7, he.symm]; rfl
        have HL := hid h
        have HFR := hid (frame_any w (c := c) (hr w (XFr.refl _ _ _)) (Nat.le_refl _) hbc (by omega))
        have hfl := frameL_len b
        have lgl := h.blk.lt
        obtain ⟨F, hF⟩ : ∃ F, F = frameL b := ⟨_, rfl⟩
        rw [← hF] at hfl HFR
        have HFL := hid hfl
        have HFUL := hid hful
        have hbi : ¬ (16384 : Int) < (b.length : Int) := by omega
        rw [happ]
        clear happ h hr hF hfl he hbig hful
        go_enter Try.func13, Try.ntmps13
        go_wp2_with fail
        refine HFR.out.mono ?_
        rintro e w1 ⟨vF, rfl, hownF, hb1⟩
        obtain ⟨AF, cF, rfl, hcF, hmF, hrF⟩ := own_form hownF
        have hc71 := (hb1.cell (p := ⟨gl, 7, none⟩) lgl).trans hc7
        have hlog1 := HL.out.below hb1 hB
        obtain ⟨fl, hfl⟩ : ∃ fl, fl = F.length := ⟨_, rfl⟩
        rw [← hfl] at hcF hownF ⊢
        have hfl2 : fl = 8 + b.length := by rw [hfl]; exact HFL.out
        have HFREE := hid (Free_any w1 hlog1 (by omega))
        obtain ⟨fri, hfri⟩ : ∃ fri : Int, fri = ((L.size * 256 - L.b.length : Nat) : Int) := ⟨_, rfl⟩
        rw [← hfri] at HFREE
        have hfi : fri < (fl : Int) := by have := HFUL.out; omega
        have HLG1 := hid hlog1
        clear hfri hfl hfl2 hlog1 hownF hrF hc7
        go_wp2_with fail
        refine HFREE.out.mono ?_
        rintro e w2 ⟨rfl, hb2⟩
        go_wp2_with fail
        refine bodyPost_ret (results_tmp rfl _ _ _) rfl ?_
        exact ⟨rfl, ⟨_, _, _, HLG1.out.below hb2 (Nat.le_trans hB hb1.size)⟩, XFr.of_below (bx_trans hb1 hb2) hB⟩
    · have happ : appS D L b = (13, D, L) := by unfold appS; rw [if_neg (fun hh => hh he), if_pos (by omega)]
      have hc7 : w.cell? ⟨gl, 7, none⟩ = some (.int .i64 0) := by rw [h.blk.cell 7, he.symm]; rfl
      have HL := hid h
      have HFR := hid (frame_any w (c := c) (hr w (XFr.refl _ _ _)) (Nat.le_refl _) hbc (by omega))
      have lgl := h.blk.lt
      have hbi : (16384 : Int) < (b.length : Int) := by omega
      rw [happ]
      clear happ h hr he hbig
      go_enter Try.func13, Try.ntmps13
      go_wp2_with fail
      refine HFR.out.mono ?_
      rintro e w1 ⟨vF, rfl, hownF, hb1⟩
      have hc71 := (hb1.cell (p := ⟨gl, 7, none⟩) lgl).trans hc7
      have hlog1 := HL.out.below hb1 hB
      have HLG1 := hid hlog1
      clear hlog1 hownF hc7
      go_wp2_with fail
      refine bodyPost_ret (results_tmp rfl _ _ _) rfl ?_
      exact ⟨rfl, ⟨_, _, _, HLG1.out⟩, XFr.of_below hb1 hB⟩
  · have happ : appS D L b = (L.e, D, L) := by unfold appS; rw [if_pos he]
    have hc7 : w.cell? ⟨gl, 7, none⟩ = some (.int .i64 L.e) := h.blk.cell 7
    have HL := hid h
    have HFR := hid (frame_any w (c := c) (hr w (XFr.refl _ _ _)) (Nat.le_refl _) hbc (by omega))
    have lgl := h.blk.lt
    have e1 : (L.e == 0) = false := by simpa using he
    have e2 : (L.e != 0) = true := by simpa using he
    rw [happ]
    clear happ h hr he
    go_enter Try.func13, Try.ntmps13
    go_wp2_with fail
    refine HFR.out.mono ?_
    rintro e w1 ⟨vF, rfl, hownF, hb1⟩
    have hc71 := (hb1.cell (p := ⟨gl, 7, none⟩) lgl).trans hc7
    have hlog1 := HL.out.below hb1 hB
    have HLG1 := hid hlog1
    clear hlog1 hownF hc7
    go_wp2_with fail
    refine bodyPost_ret (results_tmp rfl _ _ _) rfl ?_
    exact ⟨rfl, ⟨_, _, _, HLG1.out⟩, XFr.of_below hb1 hB⟩
end Go.Proofs.Ytlpdiamgpnmeoaa
