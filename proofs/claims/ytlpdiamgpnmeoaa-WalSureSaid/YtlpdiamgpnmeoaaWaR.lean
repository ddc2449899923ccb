
/- Records: Compact walked. -/
import Derived.Test.YtlpdiamgpnmeoaaWaQ
namespace Go.Proofs.Ytlpdiamgpnmeoaa
open Go.RowKit
set_option linter.unusedVariables false
/-- The records' bytes. -/
def framL (rs : List (List UInt8)) : List UInt8 := (rs.map frameL).flatten
theorem framL_snoc (rs : List (List UInt8)) (r : List UInt8) : framL (rs ++ [r]) = framL rs ++ frameL r := by simp [framL]
theorem framL_len : ∀ (rs : List (List UInt8)) (m : Nat), (∀ r ∈ rs, r.length ≤ m) → (framL rs).length ≤ rs.length * (8 + m) ∧ rs.length * 8 ≤ (framL rs).length
  | [], m, _ => ⟨by show 0 ≤ _; omega, by show 0 ≤ _; omega⟩
  | r :: rs, m, h => by
    have ih := framL_len rs m (fun x hx => h x (by simp [hx]))
    have hr := h r (by simp)
    have e : (framL (r :: rs)).length = 8 + r.length + (framL rs).length := by simp [framL, frameL_len]
    rw [e, List.length_cons, Nat.add_mul, Nat.add_mul]
    omega
def cmpR (L : LS) (rs : List (List UInt8)) (D : DS) : Int × DS := runS [layS (lay0 L (1 - L.area) 0) (layB (framL rs) 0), dsynS, markS (L.turn + 1) (1 - L.area) (framL rs).length, dsynS] D
/-- Compact: the error, the disk, the log. -/
def cmpS (D : DS) (L : LS) (rs : List (List UInt8)) : Int × DS × LS :=
  if L.e ≠ 0 then (L.e, D, L) else if (∃ r ∈ rs, 16384 < r.length) then (13, D, L) else if L.size * 256 < (framL rs).length then (31, D, L) else
    if (cmpR L rs D).1 ≠ 0 then ((cmpR L rs D).1, (cmpR L rs D).2, { L with e := (cmpR L rs D).1 })
    else (0, (cmpR L rs D).2, { L with turn := L.turn + 1, area := 1 - L.area, b := framL rs, rows := rs, sure := rs.length })
theorem layD_loose (D : DS) (f : Nat) (c : List UInt8) : (layD D f c).loose.length ≤ D.loose.length + piecesN c := by
  have := layP_loose D f c (List.range (piecesN c)) (0, D, 0)
  rw [List.length_range] at this
  exact this
theorem four_steps {w : World} {B gl g : Nat} {D : DS} {L : LS} {vb vr : Value} {vs : List Value} {f1 f2 f3 f4 : Value} {s1 s2 s3 s4 : DS → Int × DS} (h1 : StepAt w B gl g L vb vr vs D.n f1 s1 D) (h2 : StepAt w B gl g L vb vr vs D.n f2 s2 (s1 D).2)
    (h3 : StepAt w B gl g L vb vr vs D.n f3 s3 (s2 (s1 D).2).2) (h4 : StepAt w B gl g L vb vr vs D.n f4 s4 (s3 (s2 (s1 D).2).2).2) :
    ∀ (i : Nat) (fv' : Value) (s' : DS → Int × DS), [f1, f2, f3, f4][i]? = some fv' → [s1, s2, s3, s4][i]? = some s' → (runS ([s1, s2, s3, s4].take i) D).1 = 0 → StepAt w B gl g L vb vr vs D.n fv' s' (runS ([s1, s2, s3, s4].take i) D).2 := by
  intro i fv' s' q1 q2 q3
  have e2 : runS ([s1, s2, s3, s4].take 2) D = if (s1 D).1 = 0 then s2 (s1 D).2 else s1 D := by
    rw [show [s1, s2, s3, s4].take 2 = [s1] ++ [s2] from rfl, runS_snoc, runS_one]
  have e3 : runS ([s1, s2, s3, s4].take 3) D = if (runS ([s1, s2, s3, s4].take 2) D).1 = 0 then s3 (runS ([s1, s2, s3, s4].take 2) D).2 else runS ([s1, s2, s3, s4].take 2) D := by
    rw [show [s1, s2, s3, s4].take 3 = [s1, s2] ++ [s3] from rfl, runS_snoc]
    rfl
  match i, q1, q2, q3 with
  | 0, q1, q2, q3 =>
    injection q1 with q1
    injection q2 with q2
    subst q1 q2
    exact h1
  | 1, q1, q2, q3 =>
    injection q1 with q1
    injection q2 with q2
    subst q1 q2
    rw [show [s1, s2, s3, s4].take 1 = [s1] from rfl, runS_one] at q3 ⊢
    exact h2
  | 2, q1, q2, q3 =>
    injection q1 with q1
    injection q2 with q2
    subst q1 q2
    rw [e2] at q3 ⊢
    split at q3
    · rename_i hh
      rw [if_pos hh]
      exact h3
    · rename_i hh
      exact absurd q3 hh
  | 3, q1, q2, q3 =>
    injection q1 with q1
    injection q2 with q2
    subst q1 q2
    rw [e3] at q3 ⊢
    split at q3
    · rename_i hh
      rw [if_pos hh]
      rw [e2] at hh ⊢
      split at hh
      · rename_i h5
        rw [if_pos h5]
        exact h4
      · rename_i h5
        exact absurd hh h5
    · rename_i hh
      exact absurd q3 hh
/-- The four closures of a compaction, in a row of their own. -/
def FP.cmp4 (g gl area : Nat) (vb : Value) (tail : Nat) : FP := ⟨fun v w => ∃ gr fl fm, v = .slice (some ⟨gr, 0, none⟩) 4 4 ∧ Blk w gr tFn #[fl, .func (.func 35) #[.pointer (some ⟨g, 0, none⟩)] #[], fm, .func (.func 35) #[.pointer (some ⟨g, 0, none⟩)] #[]] ∧ LayF w gl area vb 0 fl ∧ MarkF w gl area tail fm, fun _ _ _ hb h => by
  obtain ⟨gr, fl, fm, h1, h2, h3, h4⟩ := h
  exact ⟨gr, fl, fm, h1, h2.below hb h2.lt, h3.below hb, h4.below hb⟩⟩
/-- What the loop over the rows keeps. -/
structure CmpI (w : World) (rs : List (List UInt8)) (k : Nat) (v5 v6 : Value) (us : List Value) (wr : World) : Prop where
  b : wr.ownsRow w.heap.size tU8 1 v5 (framL (rs.take k)).length ((framL (rs.take k)).map cb)
  rows : RowsAt wr w.heap.size v6 us (rs.take k)
  below : Below w.heap.size w wr
  sep : ∀ (j : Nat) (v : Value), us[j]? = some v → v.ownBlock = none ∨ v.ownBlock ≠ v5.ownBlock
set_option maxRecDepth 100000 in
set_option maxHeartbeats 4000000 in
theorem Compact_go (w : World) {B gl g : Nat} {D : DS} {L : LS} {vb vr : Value} {vs : List Value} (h : IsLog w B gl g D L vb vr vs) (hB : B ≤ w.heap.size) (hs : L.size ≤ 1000) (hroom : D.loose.length + L.size * 256 < 1000000) (ht : L.turn + 1 < 18446744073709551616) (he : L.e = 0)
    {A : Option Addr} {c : Nat} {rs : List (List UInt8)} (hr : ∀ W, XFr exL B w W → RdBB W W.heap.size A rs) (hn : rs.length ≤ 100) (hl : ∀ r ∈ rs, r.length ≤ 20000) :
    Calls Try.prog 21 #[.pointer (some ⟨gl, 0, none⟩), .slice A rs.length c] w fun e w' => e = .returned (.int .i64 (cmpS D L rs).1) ∧ ALog w' B gl g (cmpS D L rs).2.1 (cmpS D L rs).2.2 ∧ XFr exL B w w' := by
  have hby := h.by_
  obtain ⟨Ab, cb0, rfl, hcb0, hcm0, _, _⟩ := hby
  obtain ⟨Ar, cr, rfl, hcr, hmr, _⟩ := own_form h.rows.own
  have lgl := h.blk.lt
  have c0 : w.cell? ⟨gl, 0, none⟩ = some (.pointer (some ⟨g, 0, none⟩)) := h.blk.cell 0
  have c1 : w.cell? ⟨gl, 1, none⟩ = some (.int .i64 (L.size : Int)) := h.blk.cell 1
  have c3 : w.cell? ⟨gl, 3, none⟩ = some (.int .i64 (L.area : Int)) := h.blk.cell 3
  have c7 : w.cell? ⟨gl, 7, none⟩ = some (.int .i64 0) := by rw [h.blk.cell 7, he.symm]; rfl
  obtain ⟨m, hm⟩ : ∃ m, m = rs.length := ⟨_, rfl⟩
  rw [← hm] at hn ⊢
  have HM := hid hm
  have HL := hid h
  have HR := hid hr
  have HT := hid ht
  have HE := hid he
  have HLN := hid hl
  clear h hr ht he hl hm
  go_enter Try.func21, Try.ntmps21
  go_wp2_with fail
  go_loopw [5, 6, 8, 24, 25, 26, 27, 28, 29, 30, 31, 32, 33, 34, 35, 36, 37, 38, 39, 40] (fun v5 v6 _ v24 _ _ _ _ _ _ _ _ _ _ _ _ _ _ _ _ wr => ∃ (k : Nat) (us : List Value), k ≤ m ∧ v24 = .int .i64 (k : Int) ∧ CmpI w rs k v5 v6 us wr ∧ ∀ r ∈ rs.take k, r.length ≤ 16384) (fun _ _ _ v24 _ _ _ _ _ _ _ _ _ _ _ _ _ _ _ _ _ => m + 1 - (ofInt v24).toNat)
  case atStart => exact ⟨0, [], Nat.zero_le _, rfl, ⟨nil_ownC _ _ _ _, RowsAt.nil _ _, Below.refl _ _, fun j v h => by cases h⟩, fun r hr => by cases hr⟩
  case round =>
    obtain ⟨k, us, hk, rfl, hI, hsm⟩ := hrel
    rename World => wr
    have hbr := hI.below
    have hBr := hbr.size
    obtain ⟨A5, c5, e5, hn5, hm5, _⟩ := own_form hI.b
    obtain ⟨A6, c6, e6, hn6, hm6, _⟩ := own_form hI.rows.own
    subst e5 e6
    have hrl : (rs.take k).length = k := by rw [List.length_take, ← HM.out]; omega
    by_cases hlt : k < m
    · have hlti : (k : Int) < (m : Int) := by omega
      have hkr : k < rs.length := by rw [← HM.out]; exact hlt
      obtain ⟨gb, off, Ax, cx, rfl, hgb, hcell, hcx, hrx⟩ := (HR.out w (XFr.refl _ _ _)).at_ (k := k) hkr
      have hxs := HLN.out rs[k] (List.getElem_mem hkr)
      obtain ⟨x, hx⟩ : ∃ x, x = rs[k] := ⟨_, rfl⟩
      have htk : rs.take (k + 1) = rs.take k ++ [x] := by rw [hx, List.take_succ_eq_append_getElem hkr]
      rw [← hx] at hcell hcx hrx hxs
      have hck := (hbr.cell (p := ⟨gb, off + k, none⟩) hgb).trans hcell
      have HTK := hid htk
      have HX := hid hx
      have HRX := hid hrx
      clear htk hx hrx hcell
      by_cases hbig : x.length ≤ 16384
      · have hbi : ¬ (16384 : Int) < (x.length : Int) := by omega
        have hfl := framL_len (rs.take k) 16384 hsm
        rw [hrl] at hfl
        obtain ⟨acc, hacc⟩ : ∃ acc, acc = rs.take k := ⟨_, rfl⟩
        obtain ⟨F, hF⟩ : ∃ F, F = framL acc := ⟨_, rfl⟩
        rw [← hacc, ← hF] at hfl
        have hIb := hI.b
        have hIr := hI.rows
        have hsp := hI.sep
        rw [← hacc] at hIb hIr hsm hrl HTK ⊢
        rw [← hacc, ← hF] at hsp
        rw [← hF] at hIb ⊢
        have HSEP := hid hsp
        have HF := hid hF
        have HACC := hid hacc
        have HFLN := hid hfl
        have HIB := hid hIb
        have HIR := hid hIr
        have HSM := hid hsm
        have HRLL := hid hrl
        have HFR := hid (frame_any wr (c := cx) (HRX.out.below hbr) hBr hcx (by omega))
        have hfxl := frameL_len x
        obtain ⟨G, hG⟩ : ∃ G, G = frameL x := ⟨_, rfl⟩
        rw [← hG] at HFR hfxl
        have HG := hid hG
        have HGL := hid hfxl
        clear hacc hF hIb hIr hsm hsp hI hrl hfl hG hfxl
        go_wp2_with fail
        refine HFR.out.mono ?_
        rintro e w1 ⟨vG, rfl, hownG, hb1⟩
        obtain ⟨AG, cG, rfl, hcG, hmG, hrG⟩ := own_form hownG
        have hIb1 := own_keepW HIB.out hb1
        have hB1 : w.heap.size ≤ w1.heap.size := Nat.le_trans hBr hb1.size
        have h63 : F.length + G.length ≤ maxLen := by have h1 := HGL.out; have h2 := HFLN.out; unfold maxLen; omega
        have hby : (F.length + G.length) * 1 ≤ 140737488355328 := by have h1 := HGL.out; have h2 := HFLN.out; omega
        have hGl : (G.map cb).length = G.length * 1 := by simp
        have HC2 := hid (fun (W : World) (hb : Below w.heap.size w W) => Clone_any W (c := cx) ((HRX.out.below hb).more hb.size) (by omega))
        have HIB1 := hid hIb1
        have hIr1 := HIR.out.below hb1
        have HIR1 := hid hIr1
        have hbw1 := bx_trans hbr hb1
        have hck1 : acc.length + 1 ≤ maxLen := by have := HRLL.out; unfold maxLen; omega
        have hck2 : (acc.length + 1) * 24 ≤ 140737488355328 := by have := HRLL.out; omega
        clear hownG hIb1 hIr1 hb1
        go_wp2_with (at_builtin; refine wpList_app rfl _ _ _ rfl _ rfl _ _ _ rfl elU8 HIB1.out hrG hGl (one_cb _) h63 hby hB1 ?_; intro v2 w2 hown2 hg2 hat2)
        have hbw2 := own_below hbw1 HIB1.out hg2
        have hIr2 : RowsAt w2 w.heap.size (.slice A6 acc.length c6) us acc := by
          refine ⟨own_grow HIR1.out.own HIB1.out hg2 (by decide), fun k' v' l' q1 q2 => ?_⟩
          exact (HIR1.out.rd k' v' l' q1 q2).kept hg2 (HSEP.out k' v' q1)
        have hsep2 : ∀ (j : Nat) (v : Value), us[j]? = some v → v.ownBlock = none ∨ v.ownBlock ≠ v2.ownBlock := by
          intro j v hv
          rcases HSEP.out j v hv with h1 | h1
          · exact .inl h1
          · rcases hat2 with h2 | h2
            · exact .inr (by rw [h2]; exact h1)
            · cases hvb : v.ownBlock with
              | none => exact .inl rfl
              | some gv =>
                refine .inr ?_
                rw [h2]
                intro e
                injection e with e
                have hj : j < acc.length := by
                  have := (List.getElem?_eq_some_iff.1 hv).1
                  rw [HIR1.out.len] at this
                  exact this
                have := ((HIR1.out.rd j v acc[j] hv (List.getElem?_eq_getElem hj)).lt gv hvb).2
                omega
        refine (HC2.out w2 hbw2).mono ?_
        rintro e w3 ⟨vc, rfl, hown3, hb3⟩
        obtain ⟨AC, cC, rfl, hcC, hmC, _⟩ := own_form hown3
        have hb4 : Below w2.heap.size w2 (w3.alloc (.cells #[.slice AC x.length cC] tBy)) := bx_alloc hb3 _
        have hR4 := hIr2.below hb4
        have hO4 := hR4.own
        have hB3 : w.heap.size ≤ w2.heap.size := hbw2.size
        have hBc : OwnB (w3.alloc (.cells #[.slice AC x.length cC] tBy)) w.heap.size (.slice AC x.length cC) x := own_keepW (own_lessW hown3 hB3) (bx_alloc (Below.refl _ w3) _)
        have hx4 : Rd (w3.alloc (.cells #[.slice AC x.length cC] tBy)) (w3.alloc (.cells #[.slice AC x.length cC] tBy)).heap.size (some ⟨w3.heap.size, 0, none⟩) [.slice AC x.length cC] := rd_of_row (heap_new rfl) rfl
        have hbs := Nat.le_trans hB3 hb4.size
        have hone : ∀ u ∈ [Value.slice AC x.length cC], u.oneCell' = true := by intro u hu; simp at hu; subst hu; rfl
        have ho24 := own_keepW hown2 hb4
        have hsepc : (Value.slice AC x.length cC).ownBlock = none ∨ (Value.slice AC x.length cC).ownBlock ≠ v2.ownBlock := by
          cases hvb : (Value.slice AC x.length cC).ownBlock with
          | none => exact .inl rfl
          | some gv =>
            refine .inr (fun e => ?_)
            have h1 := (hown3.lt gv hvb).1
            have h2 := (hown2.lt gv e.symm).2
            omega
        have HR4 := hid hR4
        have HBC := hid hBc
        have HO24 := hid ho24
        have HSP := hid hsep2
        have HSPC := hid hsepc
        have hbw4 := hbw2.trans (hb4.mono hB3)
        clear hown3 hb3 hb4 hR4 hBc ho24 hsep2 hsepc hIr2 hown2
        go_wp2_with (at_builtin; refine wpList_app rfl _ _ _ rfl _ rfl _ _ _ rfl elBy hO4 hx4 rfl hone hck1 hck2 hbs ?_; intro v5 w5 hown5 hg5 hat5)
        have hbr5 := own_below hbw4 hO4 hg5
        have hR5 := HR4.out.app HBC.out hown5 hg5
        have ho5 := own_grow HO24.out hO4 hg5 (by decide)
        refine ⟨⟨k + 1, us ++ [.slice AC x.length cC], hlt, by push_cast; rfl, ⟨?_, ?_, hbr5, ?_⟩, ?_⟩, by show m + 1 - ((k : Int) + 1).toNat < m + 1 - (k : Int).toNat; omega⟩
        · have e : framL (rs.take (k + 1)) = F ++ G := by rw [HTK.out, framL_snoc, HF.out, HG.out]
          rw [e, List.map_append, List.length_append]
          exact ho5
        · rw [HTK.out]
          exact hR5
        · intro j v hv
          rcases Nat.lt_or_ge j us.length with hj | hj
          · rw [List.getElem?_append_left hj] at hv
            exact HSP.out j v hv
          · rw [List.getElem?_append_right hj] at hv
            have : j - us.length = 0 := by
              have := (List.getElem?_eq_some_iff.1 hv).1
              simp at this
              omega
            rw [this] at hv
            injection hv with hv
            subst hv
            exact HSPC.out
        · intro r hr
          rw [HTK.out] at hr
          rcases List.mem_append.1 hr with hr | hr
          · exact HSM.out r hr
          · obtain rfl := List.mem_singleton.1 hr
            exact hbig
      · have hbi : (16384 : Int) < (x.length : Int) := by omega
        have hcmp : cmpS D L rs = (13, D, L) := by
          unfold cmpS
          rw [if_neg (fun hh => hh HE.out), if_pos ⟨x, by rw [HX.out]; exact List.getElem_mem hkr, by omega⟩]
        have HCM := hid hcmp
        have HI := hid hI
        clear hcmp hI hbig hrl
        go_wp2_with fail
        refine bodyPost_ret (results_tmp rfl _ _ _) rfl ?_
        rw [HCM.out]
        exact ⟨rfl, ⟨_, _, _, HL.out.below HI.out.below hB⟩, XFr.of_below HI.out.below hB⟩
    · have hkm : k = m := by omega
      subst hkm
      have htk : rs.take k = rs := List.take_of_length_le (Nat.le_of_eq HM.out.symm)
      rw [htk] at hsm hn5 hn6 hrl ⊢
      have hfl := framL_len rs 16384 hsm
      obtain ⟨q, hq⟩ : ∃ q, q = (framL rs).length := ⟨_, rfl⟩
      have hIb := hI.b
      have hIr := hI.rows
      rw [htk] at hIb hIr
      have HIR := hid hIr
      rw [← hq] at hn5 hfl hIb ⊢
      have hbig : ¬ ∃ r ∈ rs, 16384 < r.length := by
        rintro ⟨r, h1, h2⟩
        have := hsm r h1
        omega
      have c1r := (hbr.cell (p := ⟨gl, 1, none⟩) lgl).trans c1
      have c3r := (hbr.cell (p := ⟨gl, 3, none⟩) lgl).trans c3
      have c0r := (hbr.cell (p := ⟨gl, 0, none⟩) lgl).trans c0
      have hlgr := HL.out.below hbr hB
      have hso : SlO wr (.slice A5 q c5) (framL rs) := by
        rw [hq] at hIb ⊢
        obtain ⟨A', c', e', q1, q2, q3⟩ := own_form hIb
        injection e' with e1 _ e2
        subst e1 e2
        exact ⟨A5, c5, rfl, q1, q2, q3, fun a ha => own_out hIb rfl a ha⟩
      have HQ := hid hq
      have HI := hid hI
      have HSM := hid hsm
      have HBIG := hid hbig
      have HFL := hid hfl
      have HSO := hid hso
      have HLR := hid hlgr
      have lgr := hlgr.blk.lt
      have hBB := Nat.le_trans hB hBr
      by_cases hful : q ≤ L.size * 256
      · have hfi : ¬ (L.size : Int) * 256 < (q : Int) := by omega
        obtain ⟨o, ho⟩ : ∃ o, o = 1 - L.area := ⟨_, rfl⟩
        have hoi : (1 : Int) - (L.area : Int) = (o : Int) := by have := hlgr.area; omega
        have ho2 : o < 2 := by omega
        have HO := hid ho
        obtain ⟨R, hR⟩ : ∃ R, R = cmpR L rs D := ⟨_, rfl⟩
        have hcmp : cmpS D L rs = if R.1 ≠ 0 then (R.1, R.2, { L with e := R.1 }) else (0, R.2, { L with turn := L.turn + 1, area := o, b := framL rs, rows := rs, sure := rs.length }) := by
          unfold cmpS
          rw [if_neg (fun hh => hh HE.out), if_neg HBIG.out, if_neg (by rw [← HQ.out]; omega), ← hR, ← ho]
        have hall : ∀ (W : World), Below wr.heap.size wr W → ∀ gr fl fm, Blk W gr tFn #[fl, .func (.func 35) #[.pointer (some ⟨g, 0, none⟩)] #[], fm, .func (.func 35) #[.pointer (some ⟨g, 0, none⟩)] #[]] → LayF W gl o (.slice A5 q c5) 0 fl → MarkF W gl o q fm →
            Calls Try.prog 32 #[.pointer (some ⟨gl, 0, none⟩), .slice (some ⟨gr, 0, none⟩) 4 4] W fun e w' => e = .returned (.int .i64 R.1) ∧ IsLog w' B gl g R.2 { L with e := R.1 } (.slice Ab L.b.length cb0) (.slice Ar L.rows.length cr) vs ∧ XFr exL B W w' := by
          intro W hb gr fl fm hbr' hlf hmf
          have hBW := Nat.le_trans hBB hb.size
          have hlf' := hlf
          rw [HQ.out] at hlf'
          have hso' := HSO.out.xfr (XFr.of_below (ex := []) (B := 0) hb (Nat.zero_le _)) (by simp)
          rw [HQ.out] at hso'
          have hpn : (layD D (lay0 L o 0) (layB (framL rs) 0)).loose.length < 1000000 := by
            have h1 := layD_loose D (lay0 L o 0) (layB (framL rs) 0)
            have h2 : piecesN (layB (framL rs) 0) ≤ (framL rs).length := by
              unfold piecesN layB
              rw [List.length_drop]
              omega
            rw [← HQ.out] at h2
            omega
          have hgo := all_any W (HLR.out.below hb hBB) HE.out (A := some ⟨gr, 0, none⟩) (c := 4) (fvs := [fl, .func (.func 35) #[.pointer (some ⟨g, 0, none⟩)] #[], fm, .func (.func 35) #[.pointer (some ⟨g, 0, none⟩)] #[]]) (fun W2 hx => rd_of_row (blk_xfr hbr' hx (by decide)) rfl) [layS (lay0 L o 0) (layB (framL rs) 0), dsynS, markS (L.turn + 1) o q, dsynS] rfl (by show 4 ≤ 4; omega)
            (four_steps (lay_step (g := g) (D := D) (L := L) hBW (by omega) hlf' hso' ho2 (Nat.zero_le _) (by rw [← HQ.out]; omega) (by rw [← HQ.out]; omega)) (sync_step (layD_n _ _ _)) (mark_step hBW hmf HT.out ho2 (by omega) (Nat.lt_of_le_of_lt (syncW_loose _) hpn) ((syncW_n _).trans (layD_n _ _ _))) (sync_step ((writeD_n _ _ _).trans ((syncW_n _).trans (layD_n _ _ _)))))
          have hRR : runS [layS (lay0 L o 0) (layB (framL rs) 0), dsynS, markS (L.turn + 1) o q, dsynS] D = R := by
            rw [hR]
            unfold cmpR
            rw [← HO.out, ← HQ.out]
          rw [hRR] at hgo
          exact hgo
        have HA := hid hall
        have HCM := hid hcmp
        clear hall hcmp hR ho hIb hIr hq hI hsm hbig hfl hso hlgr hrl htk
        go_wp2_with fail
        refine wp_flowQ (by kernel_rfl) [0, 0, 0, 0, 14, 0, 32, 96, 224, 480, 0, 0, 0, 4096, 15390, 0, 32768, 98304, 229376, 491520, 1048574, 2097151, 4194303] 21 [false, false, false, false, false, false, false, false, false, false, false, false, false, false, false, false, false, false, false, false, false, false, false, false, false, false, false, false, false, false, false, false, false, false, false, false, false, false, false, false, false, false, false, false, false, false, false, false, false, false, false, false, false, false, true, true, true, true, true, true, true, true, true, true, true, true, true, true, true, true, true, true, true, true, true, true] (by kernel_rfl) (by decide) (by kernel_rfl) [FP.eq (.pointer (some ⟨gl, 0, none⟩)), FP.eq (.pointer (some ⟨gl, 0, none⟩)), FP.eq (.int .i64 (o : Int)), FP.eq (.slice A5 q c5), FP.layF gl o (.slice A5 q c5) 0, FP.eq (.pointer (some ⟨gl, 0, none⟩)), FP.eq (.pointer (some ⟨gl, 0, none⟩)), FP.eq (.pointer (some ⟨gl, 0, none⟩)), FP.eq (.pointer (some ⟨g, 0, none⟩)), FP.eq (.func (.func 35) #[.pointer (some ⟨g, 0, none⟩)] #[]), FP.eq (.pointer (some ⟨gl, 0, none⟩)), FP.eq (.int .i64 (o : Int)), FP.eq (.slice A5 q c5), FP.eq (.int .i64 (q : Int)), FP.markF gl o q, FP.eq (.pointer (some ⟨gl, 0, none⟩)), FP.eq (.pointer (some ⟨gl, 0, none⟩)), FP.eq (.pointer (some ⟨gl, 0, none⟩)), FP.eq (.pointer (some ⟨g, 0, none⟩)), FP.eq (.func (.func 35) #[.pointer (some ⟨g, 0, none⟩)] #[]), FP.cmp4 g gl o (.slice A5 q c5) q] (fun v w' => v = .int .i64 R.1 ∧ IsLog w' B gl g R.2 { L with e := R.1 } (.slice Ab L.b.length cb0) (.slice Ar L.rows.length cr) vs ∧ XFr exL B wr w') ?_ (q_of rfl ⟨rfl, ?_⟩) ?_
        · refine allFrom_cons (stepQ_yes (by kernel_rfl) ?_) ?_
          · intro a_ w_ hk_
            have h0 : a_.eval (.tmp 0) = .pointer (some ⟨gl, 0, none⟩) := hk_.old 0 (by kernel_rfl)
            have hx_ := hk_.ext
            clear hk_
            refine flow_plain rfl ?_
            exact gives_move rfl ⟨Below.refl _ _, h0⟩
          refine allFrom_cons (stepQ_yes (by kernel_rfl) ?_) ?_
          · intro a_ w_ hk_
            have h0 : a_.eval (.tmp 0) = .pointer (some ⟨gl, 0, none⟩) := hk_.old 0 (by kernel_rfl)
            have hx_ := hk_.ext
            clear hk_
            refine flow_plain rfl ?_
            exact gives_move rfl ⟨Below.refl _ _, h0⟩
          refine allFrom_cons (stepQ_yes (by kernel_rfl) ?_) ?_
          · intro a_ w_ hk_
            have h9 : a_.eval (.tmp 9) = .int .i64 (o : Int) := hk_.old 9 (by kernel_rfl)
            have hx_ := hk_.ext
            clear hk_
            refine flow_plain rfl ?_
            exact gives_move rfl ⟨Below.refl _ _, h9⟩
          refine allFrom_cons (stepQ_yes (by kernel_rfl) ?_) ?_
          · intro a_ w_ hk_
            have h5 : a_.eval (.tmp 5) = .slice A5 q c5 := hk_.old 5 (by kernel_rfl)
            have hx_ := hk_.ext
            clear hk_
            refine flow_plain rfl ?_
            exact gives_move rfl ⟨Below.refl _ _, h5⟩
          refine allFrom_cons (stepQ_yes (by kernel_rfl) ?_) ?_
          · intro a_ w_ hk_
            have h55 : a_.eval (.tmp 55) = (.pointer (some ⟨gl, 0, none⟩)) := hk_.got 1 55 _ (by kernel_rfl) rfl rfl
            have h56 : a_.eval (.tmp 56) = (.int .i64 (o : Int)) := hk_.got 2 56 _ (by kernel_rfl) rfl rfl
            have h57 : a_.eval (.tmp 57) = (.slice A5 q c5) := hk_.got 3 57 _ (by kernel_rfl) rfl rfl
            have hx_ := hk_.ext
            clear hk_
            refine flow_plain rfl ?_
            unfold gives
            have hc_ : ∀ v, a_.eval (.const v) = v := fun _ => rfl
            have hn_ : ∀ f, a_.eval (.func f) = .func (.func f) #[] #[] := fun _ => rfl
            generalize a_.eval = ρ_ at *
            go_simp
            refine (lay_any w_ (fr := 0) ⟨A5, q, c5, rfl⟩).mono ?_
            rintro e w' ⟨p0, p1, p2, p3, h1, h2, h3, h4, h5, h6⟩
            exact ⟨_, h1, h6, p0, p1, p2, p3, rfl, h2, h3, h4, h5⟩
          refine allFrom_cons (stepQ_yes (by kernel_rfl) ?_) ?_
          · intro a_ w_ hk_
            have h0 : a_.eval (.tmp 0) = .pointer (some ⟨gl, 0, none⟩) := hk_.old 0 (by kernel_rfl)
            have hx_ := hk_.ext
            clear hk_
            refine flow_plain rfl ?_
            exact gives_move rfl ⟨Below.refl _ _, h0⟩
          refine allFrom_cons (stepQ_yes (by kernel_rfl) ?_) ?_
          · intro a_ w_ hk_
            have h59 : a_.eval (.tmp 59) = (.pointer (some ⟨gl, 0, none⟩)) := hk_.got 5 59 _ (by kernel_rfl) rfl rfl
            have hx_ := hk_.ext
            clear hk_
            refine flow_plain rfl ?_
            unfold gives
            have hc_ : ∀ v, a_.eval (.const v) = v := fun _ => rfl
            have hn_ : ∀ f, a_.eval (.func f) = .func (.func f) #[] #[] := fun _ => rfl
            generalize a_.eval = ρ_ at *
            go_simp
            exact ⟨Below.refl _ _, rfl⟩
          refine allFrom_cons (stepQ_yes (by kernel_rfl) ?_) ?_
          · intro a_ w_ hk_
            have h60 : a_.eval (.tmp 60) = (.pointer (some ⟨gl, 0, none⟩)) := hk_.got 6 60 _ (by kernel_rfl) rfl rfl
            have hx_ := hk_.ext
            clear hk_
            refine flow_plain rfl ?_
            unfold gives
            have hc_ : ∀ v, a_.eval (.const v) = v := fun _ => rfl
            have hn_ : ∀ f, a_.eval (.func f) = .func (.func f) #[] #[] := fun _ => rfl
            generalize a_.eval = ρ_ at *
            go_simp
            exact ⟨Below.refl _ _, rfl⟩
          refine allFrom_cons (stepQ_yes (by kernel_rfl) ?_) ?_
          · intro a_ w_ hk_
            have h61 : a_.eval (.tmp 61) = (.pointer (some ⟨gl, 0, none⟩)) := hk_.got 7 61 _ (by kernel_rfl) rfl rfl
            have hx_ := hk_.ext
            clear hk_
            refine flow_plain rfl ?_
            unfold gives
            have hc_ : ∀ v, a_.eval (.const v) = v := fun _ => rfl
            have hn_ : ∀ f, a_.eval (.func f) = .func (.func f) #[] #[] := fun _ => rfl
            have hcell := (hx_.cell (p := ⟨gl, 0, none⟩) lgr).trans c0r
            generalize a_.eval = ρ_ at *
            go_simp
            exact ⟨Below.refl _ _, rfl⟩
          refine allFrom_cons (stepQ_yes (by kernel_rfl) ?_) ?_
          · intro a_ w_ hk_
            have h62 : a_.eval (.tmp 62) = (.pointer (some ⟨g, 0, none⟩)) := hk_.got 8 62 _ (by kernel_rfl) rfl rfl
            have hx_ := hk_.ext
            clear hk_
            refine flow_plain rfl ?_
            unfold gives
            have hc_ : ∀ v, a_.eval (.const v) = v := fun _ => rfl
            have hn_ : ∀ f, a_.eval (.func f) = .func (.func f) #[] #[] := fun _ => rfl
            generalize a_.eval = ρ_ at *
            go_simp
            exact ⟨Below.refl _ _, rfl⟩
          refine allFrom_cons (stepQ_yes (by kernel_rfl) ?_) ?_
          · intro a_ w_ hk_
            have h0 : a_.eval (.tmp 0) = .pointer (some ⟨gl, 0, none⟩) := hk_.old 0 (by kernel_rfl)
            have hx_ := hk_.ext
            clear hk_
            refine flow_plain rfl ?_
            exact gives_move rfl ⟨Below.refl _ _, h0⟩
          refine allFrom_cons (stepQ_yes (by kernel_rfl) ?_) ?_
          · intro a_ w_ hk_
            have h9 : a_.eval (.tmp 9) = .int .i64 (o : Int) := hk_.old 9 (by kernel_rfl)
            have hx_ := hk_.ext
            clear hk_
            refine flow_plain rfl ?_
            exact gives_move rfl ⟨Below.refl _ _, h9⟩
          refine allFrom_cons (stepQ_yes (by kernel_rfl) ?_) ?_
          · intro a_ w_ hk_
            have h5 : a_.eval (.tmp 5) = .slice A5 q c5 := hk_.old 5 (by kernel_rfl)
            have hx_ := hk_.ext
            clear hk_
            refine flow_plain rfl ?_
            exact gives_move rfl ⟨Below.refl _ _, h5⟩
          refine allFrom_cons (stepQ_yes (by kernel_rfl) ?_) ?_
          · intro a_ w_ hk_
            have h66 : a_.eval (.tmp 66) = (.slice A5 q c5) := hk_.got 12 66 _ (by kernel_rfl) rfl rfl
            have hx_ := hk_.ext
            clear hk_
            refine flow_plain rfl ?_
            unfold gives
            have hc_ : ∀ v, a_.eval (.const v) = v := fun _ => rfl
            have hn_ : ∀ f, a_.eval (.func f) = .func (.func f) #[] #[] := fun _ => rfl
            generalize a_.eval = ρ_ at *
            go_simp
            exact ⟨Below.refl _ _, rfl⟩
          refine allFrom_cons (stepQ_yes (by kernel_rfl) ?_) ?_
          · intro a_ w_ hk_
            have h64 : a_.eval (.tmp 64) = (.pointer (some ⟨gl, 0, none⟩)) := hk_.got 10 64 _ (by kernel_rfl) rfl rfl
            have h65 : a_.eval (.tmp 65) = (.int .i64 (o : Int)) := hk_.got 11 65 _ (by kernel_rfl) rfl rfl
            have h67 : a_.eval (.tmp 67) = (.int .i64 (q : Int)) := hk_.got 13 67 _ (by kernel_rfl) rfl rfl
            have hx_ := hk_.ext
            clear hk_
            refine flow_plain rfl ?_
            unfold gives
            have hc_ : ∀ v, a_.eval (.const v) = v := fun _ => rfl
            have hn_ : ∀ f, a_.eval (.func f) = .func (.func f) #[] #[] := fun _ => rfl
            generalize a_.eval = ρ_ at *
            go_simp
            refine (mark_any w_).mono ?_
            rintro e w' ⟨p0, p1, p2, h1, h2, h3, h4, h5⟩
            exact ⟨_, h1, h5, p0, p1, p2, rfl, h2, h3, h4⟩
          refine allFrom_cons (stepQ_yes (by kernel_rfl) ?_) ?_
          · intro a_ w_ hk_
            have h0 : a_.eval (.tmp 0) = .pointer (some ⟨gl, 0, none⟩) := hk_.old 0 (by kernel_rfl)
            have hx_ := hk_.ext
            clear hk_
            refine flow_plain rfl ?_
            exact gives_move rfl ⟨Below.refl _ _, h0⟩
          refine allFrom_cons (stepQ_yes (by kernel_rfl) ?_) ?_
          · intro a_ w_ hk_
            have h69 : a_.eval (.tmp 69) = (.pointer (some ⟨gl, 0, none⟩)) := hk_.got 15 69 _ (by kernel_rfl) rfl rfl
            have hx_ := hk_.ext
            clear hk_
            refine flow_plain rfl ?_
            unfold gives
            have hc_ : ∀ v, a_.eval (.const v) = v := fun _ => rfl
            have hn_ : ∀ f, a_.eval (.func f) = .func (.func f) #[] #[] := fun _ => rfl
            generalize a_.eval = ρ_ at *
            go_simp
            exact ⟨Below.refl _ _, rfl⟩
          refine allFrom_cons (stepQ_yes (by kernel_rfl) ?_) ?_
          · intro a_ w_ hk_
            have h70 : a_.eval (.tmp 70) = (.pointer (some ⟨gl, 0, none⟩)) := hk_.got 16 70 _ (by kernel_rfl) rfl rfl
            have hx_ := hk_.ext
            clear hk_
            refine flow_plain rfl ?_
            unfold gives
            have hc_ : ∀ v, a_.eval (.const v) = v := fun _ => rfl
            have hn_ : ∀ f, a_.eval (.func f) = .func (.func f) #[] #[] := fun _ => rfl
            generalize a_.eval = ρ_ at *
            go_simp
            exact ⟨Below.refl _ _, rfl⟩
          refine allFrom_cons (stepQ_yes (by kernel_rfl) ?_) ?_
          · intro a_ w_ hk_
            have h71 : a_.eval (.tmp 71) = (.pointer (some ⟨gl, 0, none⟩)) := hk_.got 17 71 _ (by kernel_rfl) rfl rfl
            have hx_ := hk_.ext
            clear hk_
            refine flow_plain rfl ?_
            unfold gives
            have hc_ : ∀ v, a_.eval (.const v) = v := fun _ => rfl
            have hn_ : ∀ f, a_.eval (.func f) = .func (.func f) #[] #[] := fun _ => rfl
            have hcell := (hx_.cell (p := ⟨gl, 0, none⟩) lgr).trans c0r
            generalize a_.eval = ρ_ at *
            go_simp
            exact ⟨Below.refl _ _, rfl⟩
          refine allFrom_cons (stepQ_yes (by kernel_rfl) ?_) ?_
          · intro a_ w_ hk_
            have h72 : a_.eval (.tmp 72) = (.pointer (some ⟨g, 0, none⟩)) := hk_.got 18 72 _ (by kernel_rfl) rfl rfl
            have hx_ := hk_.ext
            clear hk_
            refine flow_plain rfl ?_
            unfold gives
            have hc_ : ∀ v, a_.eval (.const v) = v := fun _ => rfl
            have hn_ : ∀ f, a_.eval (.func f) = .func (.func f) #[] #[] := fun _ => rfl
            generalize a_.eval = ρ_ at *
            go_simp
            exact ⟨Below.refl _ _, rfl⟩
          refine allFrom_cons (stepQ_yes (by kernel_rfl) ?_) ?_
          · intro a_ w_ hk_
            have h58 : (FP.layF gl o (.slice A5 q c5) 0).p (a_.eval (.tmp 58)) w_ := hk_.got 4 58 _ (by kernel_rfl) rfl rfl
            have h63 : a_.eval (.tmp 63) = (.func (.func 35) #[.pointer (some ⟨g, 0, none⟩)] #[]) := hk_.got 9 63 _ (by kernel_rfl) rfl rfl
            have h68 : (FP.markF gl o q).p (a_.eval (.tmp 68)) w_ := hk_.got 14 68 _ (by kernel_rfl) rfl rfl
            have h73 : a_.eval (.tmp 73) = (.func (.func 35) #[.pointer (some ⟨g, 0, none⟩)] #[]) := hk_.got 19 73 _ (by kernel_rfl) rfl rfl
            have hx_ := hk_.ext
            clear hk_
            refine flow_plain rfl ?_
            unfold gives
            have hc_ : ∀ v, a_.eval (.const v) = v := fun _ => rfl
            have hn_ : ∀ f, a_.eval (.func f) = .func (.func f) #[] #[] := fun _ => rfl
            obtain ⟨p0, p1, p2, e_, q0, q1, q2⟩ := (show MarkF w_ gl o q (a_.eval (.tmp 68)) from h68)
            clear h68
            obtain ⟨r0, r1, r2, r3, e2_, t0, t1, t2, t3⟩ := (show LayF w_ gl o (.slice A5 q c5) 0 (a_.eval (.tmp 58)) from h58)
            clear h58
            generalize a_.eval = ρ_ at *
            go_simp
            have hb_ := Blk.new w_ tFn #[.func (.func 50) #[] #[.pointer (some ⟨r3, 0, none⟩), .pointer (some ⟨r2, 0, none⟩), .pointer (some ⟨r0, 0, none⟩), .pointer (some ⟨r1, 0, none⟩)], .func (.func 35) #[.pointer (some ⟨g, 0, none⟩)] #[], .func (.func 54) #[] #[.pointer (some ⟨p0, 0, none⟩), .pointer (some ⟨p1, 0, none⟩), .pointer (some ⟨p2, 0, none⟩)], .func (.func 35) #[.pointer (some ⟨g, 0, none⟩)] #[]]
            exact ⟨bx_alloc (Below.refl _ _) _, _, _, _, rfl, hb_, ⟨r0, r1, r2, r3, rfl, t0.alloc _, t1.alloc _, t2.alloc _, t3.alloc _⟩, ⟨p0, p1, p2, rfl, q0.alloc _, q1.alloc _, q2.alloc _⟩⟩
          exact allFrom_nil
        · intro a_ w_ hk_
          have h54 : a_.eval (.tmp 54) = (.pointer (some ⟨gl, 0, none⟩)) := hk_.got 0 54 _ (by kernel_rfl) rfl rfl
          have h74 : (FP.cmp4 g gl o (.slice A5 q c5) q).p (a_.eval (.tmp 74)) w_ := hk_.got 20 74 _ (by kernel_rfl) rfl rfl
          have hx_ := hk_.ext
          clear hk_
          obtain ⟨gr, fl, fm, e74, hbr', hlf, hmf⟩ := h74
          have hgo := HA.out w_ hx_ gr fl fm hbr' hlf hmf
          clear hmf hlf hbr'
          unfold gives
          have hc_ : ∀ v, a_.eval (.const v) = v := fun _ => rfl
          have hn_ : ∀ f, a_.eval (.func f) = .func (.func f) #[] #[] := fun _ => rfl
          generalize a_.eval = ρ_ at *
          go_simp
          exact hgo.mono fun e w' ⟨h1, h2, h3⟩ => ⟨_, h1, rfl, h2, (XFr.of_below hx_ hBB).trans h3⟩
        intro f_ w_ hf_ ht_
        have h54 : f_ 54 = (.pointer (some ⟨gl, 0, none⟩)) := (hf_ 0 54 _ (by decide) rfl rfl).elim fun _ h => h
        have h55 : f_ 55 = (.pointer (some ⟨gl, 0, none⟩)) := (hf_ 1 55 _ (by decide) rfl rfl).elim fun _ h => h
        have h56 : f_ 56 = (.int .i64 (o : Int)) := (hf_ 2 56 _ (by decide) rfl rfl).elim fun _ h => h
        have h57 : f_ 57 = (.slice A5 q c5) := (hf_ 3 57 _ (by decide) rfl rfl).elim fun _ h => h
        have h59 : f_ 59 = (.pointer (some ⟨gl, 0, none⟩)) := (hf_ 5 59 _ (by decide) rfl rfl).elim fun _ h => h
        have h60 : f_ 60 = (.pointer (some ⟨gl, 0, none⟩)) := (hf_ 6 60 _ (by decide) rfl rfl).elim fun _ h => h
        have h61 : f_ 61 = (.pointer (some ⟨gl, 0, none⟩)) := (hf_ 7 61 _ (by decide) rfl rfl).elim fun _ h => h
        have h62 : f_ 62 = (.pointer (some ⟨g, 0, none⟩)) := (hf_ 8 62 _ (by decide) rfl rfl).elim fun _ h => h
        have h63 : f_ 63 = (.func (.func 35) #[.pointer (some ⟨g, 0, none⟩)] #[]) := (hf_ 9 63 _ (by decide) rfl rfl).elim fun _ h => h
        have h64 : f_ 64 = (.pointer (some ⟨gl, 0, none⟩)) := (hf_ 10 64 _ (by decide) rfl rfl).elim fun _ h => h
        have h65 : f_ 65 = (.int .i64 (o : Int)) := (hf_ 11 65 _ (by decide) rfl rfl).elim fun _ h => h
        have h66 : f_ 66 = (.slice A5 q c5) := (hf_ 12 66 _ (by decide) rfl rfl).elim fun _ h => h
        have h67 : f_ 67 = (.int .i64 (q : Int)) := (hf_ 13 67 _ (by decide) rfl rfl).elim fun _ h => h
        have h69 : f_ 69 = (.pointer (some ⟨gl, 0, none⟩)) := (hf_ 15 69 _ (by decide) rfl rfl).elim fun _ h => h
        have h70 : f_ 70 = (.pointer (some ⟨gl, 0, none⟩)) := (hf_ 16 70 _ (by decide) rfl rfl).elim fun _ h => h
        have h71 : f_ 71 = (.pointer (some ⟨gl, 0, none⟩)) := (hf_ 17 71 _ (by decide) rfl rfl).elim fun _ h => h
        have h72 : f_ 72 = (.pointer (some ⟨g, 0, none⟩)) := (hf_ 18 72 _ (by decide) rfl rfl).elim fun _ h => h
        have h73 : f_ 73 = (.func (.func 35) #[.pointer (some ⟨g, 0, none⟩)] #[]) := (hf_ 19 73 _ (by decide) rfl rfl).elim fun _ h => h
        have ht := ht_ 75 _ rfl rfl
        clear ht_
        simp only [mix, List.drop_succ_cons, List.drop_zero, h54, h55, h56, h57, h59, h60, h61, h62, h63, h64, h65, h66, h67, h69, h70, h71, h72, h73]
        clear h54 h55 h56 h57 h59 h60 h61 h62 h63 h64 h65 h66 h67 h69 h70 h71 h72 h73
        clear hf_
        obtain ⟨h75, hlg5, hx5⟩ := ht
        rw [h75]
        clear h75
        have hx05 := (XFr.of_below hbr hB).trans hx5
        obtain ⟨E, D'⟩ := R
        by_cases hE0 : E = 0
        · subst hE0
          have hL0 : ({ L with e := 0 } : LS) = L := by rw [← HE.out]
          replace hlg5 : IsLog w_ B gl g D' L (.slice Ab L.b.length cb0) (.slice Ar L.rows.length cr) vs := by
            rw [← hL0]
            exact hlg5
          have hblk5 := hlg5.blk
          have c25 : w_.cell? ⟨gl, 2, none⟩ = some (.int .u64 (L.turn : Int)) := hblk5.cell 2
          obtain ⟨ti, hti⟩ : ∃ ti : Int, ti = (L.turn : Int) := ⟨_, rfl⟩
          rw [← hti] at c25
          have hti2 : ti + 1 < 18446744073709551616 := by have := HT.out; omega
          have hti0 : 0 ≤ ti := by omega
          have HTI := hid hti
          have HLG := hid hlg5
          clear hL0 hlg5 hti
          go_wp2_with (first
            | ((with_reducible refine wpAtC ?_); refine wpList_store1 rfl 59 _ _ rfl gl 2 rfl _ rfl sz59 rfl hblk5 (show 2 < 8 by omega) ?_; intro w6 hp6; simp only [Act.put])
            | ((with_reducible refine wpAtC ?_); refine wpList_store1 rfl 3 _ _ rfl gl 3 rfl _ rfl sz3 rfl hp6.blk (show 3 < 8 by omega) ?_; intro w7 hp7; simp only [Act.put])
            | ((with_reducible refine wpAtC ?_); refine wpList_store1 rfl 23 _ _ rfl gl 4 rfl _ rfl sz23 rfl hp7.blk (show 4 < 8 by omega) ?_; intro w8 hp8; simp only [Act.put])
            | ((with_reducible refine wpAtC ?_); refine wpList_store1 rfl 22 _ _ rfl gl 5 rfl _ rfl sz22 rfl hp8.blk (show 5 < 8 by omega) ?_; intro w9 hp9; simp only [Act.put])
            | ((with_reducible refine wpAtC ?_); refine wpList_store1 rfl 3 _ _ rfl gl 6 rfl _ rfl sz3 rfl hp9.blk (show 6 < 8 by omega) ?_; intro w10 hp10; simp only [Act.put]))
          refine bodyPost_ret (results_tmp rfl _ _ _) rfl ?_
          rw [HCM.out, if_neg (fun hh => hh rfl)]
          have hlg := HLG.out
          have e7 := hp10.blk
          have htt : ti + 1 = ((L.turn + 1 : Nat) : Int) := by rw [HTI.out]; push_cast; rfl
          rw [htt] at e7
          have hgB := hlg.gB
          have hx510 : XFr [tLog] B w_ w10 := ((((XFr.of_put hblk5 hp6 hgB (by simp)).trans (XFr.of_put hp6.blk hp7 hgB (by simp))).trans (XFr.of_put hp7.blk hp8 hgB (by simp))).trans (XFr.of_put hp8.blk hp9 hgB (by simp))).trans (XFr.of_put hp9.blk hp10 hgB (by simp))
          have hd := ((((hlg.disk.put_int hblk5 hp6 (by decide) (by decide)).put_int hp6.blk hp7 (by decide) (by decide)).put_int hp7.blk hp8 (by decide) (by decide)).put_int hp8.blk hp9 (by decide) (by decide)).put_int hp9.blk hp10 (by decide) (by decide)
          exact ⟨rfl, ⟨.slice A5 q c5, .slice A6 rs.length c6, us, hd, e7, (HSO.out.xfr hx5 (by decide)).xfr hx510 (by decide), ((HIR.out.less hB).xfr hx5 (by decide) (by decide)).xfr hx510 (by decide) (by decide), hgB, hlg.size, HT.out, ho2, by show (framL rs).length ≤ L.size * 256; rw [← HQ.out]; exact hful, Nat.le_refl _, by show rs.length * 8 ≤ (framL rs).length; rw [← HQ.out]; exact HFL.out.2, HSM.out⟩, hx05.trans (hx510.wide (by simp))⟩
        · have e1 : (E == 0) = false := by simpa using hE0
          have e2 : (E != 0) = true := by simpa using hE0
          have HE0 := hid hE0
          clear hE0
          go_wp2_with fail
          refine bodyPost_ret (results_tmp rfl _ _ _) rfl ?_
          rw [HCM.out, if_pos HE0.out]
          exact ⟨rfl, ⟨_, _, _, hlg5⟩, hx05⟩
      · have hfi : (L.size : Int) * 256 < (q : Int) := by omega
        have hcmp : cmpS D L rs = (31, D, L) := by
          unfold cmpS
          rw [if_neg (fun hh => hh HE.out), if_neg HBIG.out, if_pos (by rw [← HQ.out]; omega)]
        have HCM := hid hcmp
        clear hcmp hful hIb hIr hq hI hsm hbig hfl hso hlgr hrl htk
        go_wp2_with fail
        refine bodyPost_ret (results_tmp rfl _ _ _) rfl ?_
        rw [HCM.out]
        exact ⟨rfl, ⟨_, _, _, HLR.out⟩, XFr.of_below hbr hB⟩
set_option maxRecDepth 100000 in
set_option maxHeartbeats 2000000 in
theorem Compact_any (w : World) {B gl g : Nat} {D : DS} {L : LS} (h : ALog w B gl g D L) (hB : B ≤ w.heap.size) (hs : L.size ≤ 1000) (hroom : D.loose.length + L.size * 256 < 1000000) (ht : L.turn + 1 < 18446744073709551616)
    {A : Option Addr} {c : Nat} {rs : List (List UInt8)} (hr : ∀ W, XFr exL B w W → RdBB W W.heap.size A rs) (hn : rs.length ≤ 100) (hl : ∀ r ∈ rs, r.length ≤ 20000) :
    Calls Try.prog 21 #[.pointer (some ⟨gl, 0, none⟩), .slice A rs.length c] w fun e w' => e = .returned (.int .i64 (cmpS D L rs).1) ∧ ALog w' B gl g (cmpS D L rs).2.1 (cmpS D L rs).2.2 ∧ XFr exL B w w' := by
  obtain ⟨vb, vr, vs, h⟩ := h
  by_cases he : L.e = 0
  · exact Compact_go w h hB hs hroom ht he hr hn hl
  · have hcmp : cmpS D L rs = (L.e, D, L) := by unfold cmpS; rw [if_pos he]
    have lgl := h.blk.lt
    have c7 : w.cell? ⟨gl, 7, none⟩ = some (.int .i64 L.e) := h.blk.cell 7
    have e1 : (L.e == 0) = false := by simpa using he
    have e2 : (L.e != 0) = true := by simpa using he
    have HL := hid h
    rw [hcmp]
    clear hcmp h he hr hl hn
    go_enter Try.func21, Try.ntmps21
    go_wp2_with fail
    refine bodyPost_ret (results_tmp rfl _ _ _) rfl ?_
    exact ⟨rfl, ⟨_, _, _, HL.out⟩, XFr.refl _ _ _⟩
end Go.Proofs.Ytlpdiamgpnmeoaa
