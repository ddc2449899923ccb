
/- Records: frames walked. -/
import Derived.Test.YtlpdiamgpnmeoaaWaB
namespace Go.Proofs.Ytlpdiamgpnmeoaa
open Go.RowKit
set_option linter.unusedVariables false
def lenOf : Value → Nat
  | .slice _ n _ => n
  | _ => 0
/-- The two numbers of a head. -/
theorem head_two {b : List UInt8} (h : 8 ≤ b.length) : numV ⟨b.take 8, 0⟩ 4 = nOf b ∧ numV (numS ⟨b.take 8, 0⟩ 4) 4 = sOf b ∧ (numS (numS ⟨b.take 8, 0⟩ 4) 4).e = 0 := by
  have h8 : (b.take 8).length = 8 := by rw [List.length_take, Nat.min_eq_left h]
  have hm : mayB 4 = true := by decide
  have e4 : (4 : Int).toNat = 4 := rfl
  have t1 : takeV ⟨b.take 8, 0⟩ 4 = b.take 4 := by
    unfold takeV
    rw [if_pos rfl, if_neg (by show ¬ (b.take 8).length < 4; omega), List.take_take]
    rfl
  have s1 : takeS ⟨b.take 8, 0⟩ 4 = ⟨(b.take 8).drop 4, 0⟩ := by
    unfold takeS
    rw [if_pos rfl, if_neg (by show ¬ (b.take 8).length < 4; omega)]
  have hd : (b.take 8).drop 4 = (b.drop 4).take 4 := by rw [List.drop_take]
  have hdl : ((b.drop 4).take 4).length = 4 := by rw [List.length_take, List.length_drop]; omega
  have t2 : takeV ⟨(b.drop 4).take 4, 0⟩ 4 = (b.drop 4).take 4 := by
    unfold takeV
    rw [if_pos rfl, if_neg (by show ¬ ((b.drop 4).take 4).length < 4; omega), List.take_of_length_le (by show ((b.drop 4).take 4).length ≤ 4; omega)]
  have s2 : (takeS ⟨(b.drop 4).take 4, 0⟩ 4).e = 0 := by
    unfold takeS
    rw [if_pos rfl, if_neg (by show ¬ ((b.drop 4).take 4).length < 4; omega)]
  unfold numV numS
  rw [if_pos hm, if_pos hm, if_pos hm, if_pos hm, e4, t1, s1, hd, t2]
  exact ⟨rfl, rfl, s2⟩
theorem head_none {b : List UInt8} (h : b.length < 8) : (numS (numS ⟨b, 0⟩ 4) 4).e = 10 := by
  have hm : mayB 4 = true := by decide
  have e4 : (4 : Int).toNat = 4 := rfl
  unfold numS
  rw [if_pos hm, if_pos hm, e4]
  by_cases h4 : b.length < 4
  · have e1 : takeS ⟨b, 0⟩ 4 = ⟨b, 10⟩ := by
      unfold takeS
      rw [if_pos rfl, if_pos (show (RS.mk b 0).b.length < 4 from h4)]
    rw [e1]
    unfold takeS
    rw [if_neg (show ¬ (10 : Int) = 0 by decide)]
  · have e1 : takeS ⟨b, 0⟩ 4 = ⟨b.drop 4, 0⟩ := by
      unfold takeS
      rw [if_pos rfl, if_neg (show ¬ (RS.mk b 0).b.length < 4 from h4)]
    rw [e1]
    unfold takeS
    rw [if_pos rfl, if_pos (show (b.drop 4).length < 4 by rw [List.length_drop]; omega)]
theorem sl_len {A : Option Addr} {c k : Nat} {b : List UInt8} : Value.slice A (b.length - k) c = Value.slice A (b.drop k).length c := by rw [List.length_drop]
theorem add_pos {g o k : Nat} : (⟨g, o, none⟩ : Addr).add (8 + k) = ⟨g, o + (8 + k), none⟩ := by unfold Addr.add; rw [if_neg (by omega)]
/-- What frames tells. -/
def FramesPost (w : World) (F : List (List UInt8) × Int) (e : Ending) (w' : World) : Prop := ∃ vo vs, e = .returned (.tuple #[vo, .int .i64 F.2]) ∧ RowsAt w' w.heap.size vo vs F.1 ∧ Below w.heap.size w w'
set_option maxRecDepth 100000 in
set_option maxHeartbeats 2000000 in
theorem frames_any (w : World) {A : Option Addr} {c : Nat} {b : List UInt8} (hr : Rd w w.heap.size A (b.map cb)) (hbc : b.length ≤ c) (hcm : c ≤ maxLen) (hl : b.length ≤ 10000000) :
    Calls Try.prog 29 #[.slice A b.length c] w (FramesPost w (framesL b)) := by
  have HR := hid hr
  obtain ⟨F, hF⟩ : ∃ F, F = framesL b := ⟨_, rfl⟩
  rw [← hF]
  have HF0 : Hid (F = comb [] (framesL b)) := hid (by rw [comb_nil _ (framesL_err b)]; exact hF)
  unfold maxLen at hcm
  clear hr hF
  go_enter Try.func29, Try.ntmps29
  go_wp2_with fail
  go_loopw [0, 4, 5, 6, 7, 8] (fun v0 v4 _ _ _ _ wr => ∃ (A' : Option Addr) (c' : Nat) (b' : List UInt8) (acc : List (List UInt8)) (vs : List Value), v0 = .slice A' b'.length c' ∧ b'.length ≤ c' ∧ c' ≤ 9223372036854775807 ∧ b'.length ≤ 10000000 ∧ acc.length + b'.length ≤ 10000000 ∧ Rd wr w.heap.size A' (b'.map cb) ∧ RowsAt wr w.heap.size v4 vs acc ∧ Hid (F = comb acc (framesL b')) ∧ Below w.heap.size w wr) (fun v0 _ _ _ _ _ _ => lenOf v0)
  case atStart => exact ⟨A, c, b, [], [], rfl, hbc, by omega, hl, by simpa using hl, HR.out, RowsAt.nil _ _, HF0, Below.refl _ _⟩
  case round =>
    obtain ⟨A', c', b', acc, vs, rfl, hbc', hcm', hl', hal, hr', hro, HFC, hbr⟩ := hrel
    rename World => wr
    obtain ⟨A4, c4, e4, _, _, _⟩ := own_form hro.own
    subst e4
    have HRO := hid hro
    clear hro
    by_cases h0 : b'.length = 0
    · have hF : F = comb acc ([], 0) := by rw [HFC.out, List.eq_nil_of_length_eq_zero h0, framesL_nil]
      have hF2 : F = (acc, 0) := by rw [hF]; unfold comb; rw [if_pos rfl, List.append_nil]
      clear hF
      subst hF2
      have hz : ¬ (0 : Int) < (b'.length : Int) := by omega
      go_wp2_with fail
      exact bodyPost_ret (results_tmp2 rfl _ _ _) rfl ⟨.slice A4 acc.length c4, vs, rfl, HRO.out, hbr⟩
    · obtain ⟨gb, off, rfl, hgb, hcell⟩ := hr'.at_ (k := 0) (by rw [List.length_map]; omega)
      have hpos : (0 : Int) < (b'.length : Int) := by omega
      have HR' := hid hr'
      have hB := hbr.size
      clear hr' hcell
      by_cases h8 : b'.length < 8
      · have HF1 : Hid (F = ([], 11)) := hid (by rw [HFC.out, framesL_bad h0 (.inl h8)]; rfl)
        have h8i : (b'.length : Int) < 8 := by omega
        go_wp2_with fail
        refine (NewReader_any wr HR'.out (by omega)).mono ?_
        rintro e w1 ⟨g, rfl, ⟨Ar, cr, hR1⟩, hg1, hb1⟩
        have hb01 := bx_trans hbr hb1
        have hgw : w.heap.size ≤ g := Nat.le_trans hB hg1
        go_wp2_with fail
        refine (RNum_any w1 hR1 4).mono ?_
        rintro e w2 ⟨rfl, ⟨A2, c2, hR2⟩, hG2⟩
        have hb02 := hb01.trans (below_rg hG2 hgw hb01.size)
        clear hG2 hR1
        go_wp2_with fail
        refine (RNum_any w2 hR2 4).mono ?_
        rintro e w3 ⟨rfl, ⟨A3, c3, hR3⟩, hG3⟩
        have hb03 := hb02.trans (below_rg hG3 hgw hb02.size)
        have he := head_none h8
        clear hG3 hR2 hb01 hb02
        go_wp2_with fail
        refine (RErr_any w3 hR3).mono ?_
        rintro e w4 ⟨rfl, rfl⟩
        rw [he]
        go_wp2_with fail
        have hF := HF1.out
        subst hF
        exact bodyPost_ret (results_tmp2 rfl _ _ _) rfl ⟨_, [], rfl, RowsAt.nil _ _, hb03⟩
      · obtain ⟨h1, h2, h3⟩ := head_two (b := b') (by omega)
        have h8i : ¬ (b'.length : Int) < 8 := by omega
        have h8i2 : (8 : Int) < (b'.length : Int) ∨ (b'.length : Int) = 8 := by omega
        have e8 : (b'.take 8).length = 8 := by rw [List.length_take]; omega
        have hcpi : (8 : Int) ≤ (c' : Int) := by omega
        have HNR := hid (NewReader_any wr (l := b'.take 8) (c := c') (by rw [List.map_take]; exact HR'.out.take 8) (by omega))
        rw [e8] at HNR
        have H1 := hid h1
        have H2 := hid h2
        have H3 := hid h3
        clear h1 h2 h3 e8
        have hmin : (if (8 : Int) < (b'.length : Int) then (8 : Int) else (b'.length : Int)) = 8 := by split <;> omega
        go_wp2_with fail
        refine HNR.out.mono ?_
        rintro e w1 ⟨g, rfl, ⟨Ar, cr, hR1⟩, hg1, hb1⟩
        have hb01 := bx_trans hbr hb1
        have hgw : w.heap.size ≤ g := Nat.le_trans hB hg1
        go_wp2_with fail
        refine (RNum_any w1 hR1 4).mono ?_
        rintro e w2 ⟨rfl, ⟨A2, c2, hR2⟩, hG2⟩
        have hG02 := rg_trans (rg_below (g := g) hb1) hG2
        have hb02 := hb01.trans (below_rg hG2 hgw hb01.size)
        rw [H1.out]
        clear hG2 hR1
        go_wp2_with fail
        refine (RNum_any w2 hR2 4).mono ?_
        rintro e w3 ⟨rfl, ⟨A3, c3, hR3⟩, hG3⟩
        have hG03 := rg_trans hG02 hG3
        have hb03 := hb02.trans (below_rg hG3 hgw hb02.size)
        rw [H2.out]
        have hnl := nOf_lt b'
        clear hG3 hR2 hb01 hb02 hG02 hb1
        go_wp2_with fail
        refine (RErr_any w3 hR3).mono ?_
        rintro e w4 ⟨rfl, rfl⟩
        rw [H3.out]
        clear hR3
        obtain ⟨n, hn⟩ : ∃ n, n = nOf b' := ⟨_, rfl⟩
        obtain ⟨sm, hsm⟩ : ∃ n : Int, n = (sOf b' : Int) := ⟨_, rfl⟩
        rw [← hn] at hnl
        rw [← hn, ← hsm]
        have HN := hid hn
        have HSM := hid hsm
        clear hn hsm H1 H2 H3 HNR
        by_cases hn1 : 16384 < n
        · have hn1i : (16384 : Int) < (n : Int) := by omega
          have HF1 : Hid (F = ([], 11)) := hid (by rw [HFC.out, framesL_bad h0 (.inr (.inl (by rw [← HN.out]; exact hn1)))]; rfl)
          go_wp2_with fail
          have hF := HF1.out
          subst hF
          exact bodyPost_ret (results_tmp2 rfl _ _ _) rfl ⟨.slice none 0 0, [], rfl, RowsAt.nil _ _, hb03⟩
        · have hn1i : ¬ (16384 : Int) < (n : Int) := by omega
          by_cases hn2 : b'.length - 8 < n
          · have hn2i : ((b'.length : Int) - 8) < (n : Int) := by omega
            have HF1 : Hid (F = ([], 11)) := hid (by rw [HFC.out, framesL_bad h0 (.inr (.inr (by rw [← HN.out]; exact hn2)))]; rfl)
            go_wp2_with fail
            have hF := HF1.out
            subst hF
            exact bodyPost_ret (results_tmp2 rfl _ _ _) rfl ⟨.slice none 0 0, [], rfl, RowsAt.nil _ _, hb03⟩
          · obtain ⟨x, hx⟩ : ∃ x, x = recB b' := ⟨_, rfl⟩
            have hnx : n = x.length := by
              rw [hx]
              unfold recB
              rw [List.length_take, List.length_drop, ← HN.out]
              omega
            have HX := hid hx
            have hXR : Rd wr w.heap.size (if c' = 8 then some ⟨gb, off, none⟩ else (some (⟨gb, off, none⟩ : Addr)).map (fun x => x.add 8)) (x.map cb) := by
              rw [hx]
              unfold recB
              rw [List.map_take, List.map_drop]
              exact (HR'.out.drop (c := c') (by rw [List.length_map]; exact hbc')).take _
            have HXR := hid hXR
            have hwr3 : Below wr.heap.size wr w3 := below_rg hG03 hg1 (Nat.le_refl _)
            clear hx hXR
            subst hnx
            have hn2i : ¬ ((b'.length : Int) - 8) < (x.length : Int) := by omega
            have hmk : ∀ (k : Nat) (v v' : Value) (w7 : World), RowsAt w7 w.heap.size v' (vs ++ [v]) (acc ++ [x]) → F = comb (acc ++ [x]) (framesL (b'.drop (8 + x.length))) → True := fun _ _ _ _ _ _ => trivial
            clear hmk
            go_wp2_with fail
            all_goals
              have hxr := HXR.out
              first
                | rw [if_pos h] at hxr
                | rw [if_neg h] at hxr
              refine (crcOf_any _ _ 1 [x] (by simp) (by intro l hl'; simp at hl'; subst hl'; omega) (rdBB_one (l := x) (B := w3.heap.size) ⟨_, _, rfl, by omega, (hxr.below (hwr3.mono hB)).more (Nat.le_trans hB hwr3.size)⟩ (Nat.le_refl _))).mono ?_
              rintro e w4 ⟨rfl, hb4⟩
              rw [show ([x] : List (List UInt8)).flatten = x from by simp]
              have hwr4 := hwr3.trans ((bx_trans (bx_alloc (Below.refl _ w3) _) hb4).mono hwr3.size)
              clear hb4
              have hk := crc_lt x
              obtain ⟨k, hk'⟩ : ∃ k : Int, k = (crc x : Int) := ⟨_, rfl⟩
              have hki : k < 4294967296 := by omega
              have hki0 : 0 ≤ k := by omega
              rw [← hk']
              have HK := hid hk'
              clear hk' hk hG03 hb03
              by_cases hks : k = sm
              · subst hks
                have HF1 : Hid (F = comb (acc ++ [x]) (framesL (b'.drop (8 + x.length)))) := hid (by
                  rw [HFC.out, framesL_go h0 (by unfold badB; rw [← HN.out]; omega) (by have q1 := HK.out; have q2 := HSM.out; rw [← HX.out]; omega), comb_comb, ← HX.out, ← HN.out])
                go_wp2_with fail
                refine (Clone_any w4 (hxr.below (hwr4.mono hB)) (by omega)).mono ?_
                rintro e w5 ⟨v, rfl, hown5, hb5⟩
                obtain ⟨Ac, cc, rfl, hcc, hmc, _⟩ := own_form hown5
                have hwr5 := hwr4.trans (hb5.mono hwr4.size)
                have hwr6 := bx_alloc hwr5 (.cells #[.slice Ac x.length cc] tBy)
                have hR6 := HRO.out.below hwr6
                have hO6 := hR6.own
                have hB6 : OwnB (w5.alloc (.cells #[.slice Ac x.length cc] tBy)) w.heap.size (.slice Ac x.length cc) x := own_keepW (own_lessW hown5 (Nat.le_trans hB hwr4.size)) (bx_alloc (Below.refl _ w5) _)
                have hx6 : Rd (w5.alloc (.cells #[.slice Ac x.length cc] tBy)) (w5.alloc (.cells #[.slice Ac x.length cc] tBy)).heap.size (some ⟨w5.heap.size, 0, none⟩) [.slice Ac x.length cc] := rd_of_row (heap_new rfl) rfl
                have hbs := Nat.le_trans hB hwr6.size
                have h63 : acc.length + 1 ≤ maxLen := by unfold maxLen; omega
                have hby : (acc.length + 1) * 24 ≤ 140737488355328 := by omega
                have hone : ∀ u ∈ [Value.slice Ac x.length cc], u.oneCell' = true := by intro u hu; simp at hu; subst hu; rfl
                have HR6 := hid hR6
                have HB6 := hid hB6
                have hbw6 := hbr.trans (hwr6.mono hB)
                clear hown5 hb5 hR6 hB6 hxr
                go_wp2_with (at_builtin; refine wpList_app rfl _ _ _ rfl _ rfl _ _ _ rfl elBy hO6 hx6 rfl hone h63 hby hbs ?_; intro v7 w7 hown7 hg7 hat7)
                all_goals
                  have hbr7 := own_below hbw6 hO6 hg7
                  have hwr7 := (hwr6.mono hB).grown hg7 hbs fun k hk => (hO6.lt k hk).1
                  have hR7 := HR6.out.app HB6.out hown7 hg7
                  have hd := (HR'.out.drop (k := 8 + x.length) (c := c') (by rw [List.length_map]; exact hbc')).below hwr7
                  rw [← List.map_drop] at hd
                  refine ⟨⟨_, _, b'.drop (8 + x.length), acc ++ [x], _, sl_len, ?_, ?_, ?_, ?_, ?_, hR7, HF1, hbr7⟩, ?_⟩
                  · rw [List.length_drop]; omega
                  · omega
                  · rw [List.length_drop]; omega
                  · rw [List.length_drop, List.length_append]; show acc.length + 1 + _ ≤ _; omega
                  · by_cases hz : c' = 8 + x.length
                    · have hz2 : b'.drop (8 + x.length) = [] := List.drop_eq_nil_of_le (by omega)
                      rw [hz2]
                      exact Rd.nil _ _ _
                    · first
                        | (rw [if_neg hz] at hd; exact hd)
                        | (have hz2 : b'.drop (8 + x.length) = [] := List.drop_eq_nil_of_le (by omega); rw [hz2]; exact Rd.nil _ _ _)
                        | (rw [if_neg hz] at hd ⊢; rw [Option.map_some, add_pos] at hd; exact hd)
                  · show b'.length - (8 + x.length) < b'.length
                    omega
              · have HF1 : Hid (F = ([], 14)) := hid (by
                  rw [HFC.out, framesL_sum h0 (by unfold badB; rw [← HN.out]; omega) (by have q1 := HK.out; have q2 := HSM.out; rw [← HX.out]; omega)]; rfl)
                go_wp2_with fail
                have hF := HF1.out
                subst hF
                exact bodyPost_ret (results_tmp2 rfl _ _ _) rfl ⟨.slice none 0 0, [], rfl, RowsAt.nil _ _, hbr.trans (hwr4.mono hB)⟩
end Go.Proofs.Ytlpdiamgpnmeoaa
