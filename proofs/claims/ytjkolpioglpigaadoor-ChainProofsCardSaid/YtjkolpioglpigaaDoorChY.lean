
/- The document's answer for chains: Proof, from the top down. -/
import Derived.Test.YtjkolpioglpigaaDoorChX
namespace Go.Proofs.YtjkolpioglpigaaDoor
open Go.RowKit
set_option linter.unusedVariables false
theorem Rd.dropN {w : World} {B b off : Nat} {xs : List Value} (h : Rd w B (some ⟨b, off, none⟩) xs) (k : Nat) : Rd w B (some ⟨b, off + k, none⟩) (xs.drop k) := by
  rcases h with h | ⟨b', off', h1, h2, h3⟩
  · subst h; simp [Rd]
  · injection h1 with h1
    injection h1 with h4 h5
    subst h4 h5
    refine .inr ⟨b, off + k, rfl, h2, fun i l hl => ?_⟩
    rw [List.getElem?_drop] at hl
    rw [Nat.add_assoc]
    exact h3 _ l hl
def slN : Value → Nat
  | .slice _ n _ => n
  | _ => 0
set_option maxHeartbeats 400000 in
theorem rProof_no (w : World) (A : Option Addr) (m c : Nat) (i : Int) (h : i < 1 ∨ (m : Int) < i) :
    Calls Tryd.prog 13 #[.slice A m c, .int .i64 i] w fun e w' => e = .returned (.tuple #[.slice none 0 0, .int .i64 15]) ∧ w = w' := by
  by_cases h1 : i < 1
  · go_enter Tryd.func13, Tryd.ntmps13
    go_wp2
    go_ret2
    exact ⟨rfl, rfl⟩
  · have h2 : (m : Int) < i := by omega
    go_enter Tryd.func13, Tryd.ntmps13
    go_wp2
    go_ret2
    exact ⟨rfl, rfl⟩
theorem rRoot_m (w : World) {A : Option Addr} {c m : Nat} {ls : List (List UInt8)} (hm : ls.length = m) (hr : Rd w w.heap.size A (ls.map sv)) (hc : m ≤ c) (h20 : m ≤ 20) (hs : ∀ l ∈ ls, l.length ≤ 60) :
    Calls Tryd.prog 26 #[.slice A m c] w fun e w' => e = .returned (.agg ((treeR ls).map cb).toArray) ∧ Below w.heap.size w w' := by
  subst hm
  exact rRoot_any w hr hc h20 hs
/-- What a round keeps. -/
def PRel (w : World) (ls : List (List UInt8)) (i : Nat) (v0 v1 v6 v7 : Value) (wr : World) : Prop :=
  ∃ (A' : Option Addr) (c' : Nat) (ls' : List (List UInt8)) (n' i' : Nat) (wh : Bool) (out : List (List UInt8)) (q : Nat), v0 = .slice A' n' c' ∧ ls'.length = n' ∧ n' ≤ c' ∧ v1 = .int .i64 (i' : Int) ∧ 1 ≤ i' ∧ i' ≤ n' ∧ v7 = .bool wh ∧
    Rd w w.heap.size A' (ls'.map sv) ∧ (∀ l ∈ ls', l.length ≤ 60) ∧ (∀ h ∈ out, h.length = 32) ∧ out.length = q ∧ q + n' ≤ ls.length ∧ wr.ownsRow w.heap.size 37 32 v6 q (out.flatten.map cb) ∧ Below w.heap.size w wr ∧ prf ls i true = prf ls' i' wh ++ out
set_option maxRecDepth 10000 in
set_option maxHeartbeats 2000000 in
theorem rProof_any (w : World) {A : Option Addr} {c i m : Nat} {ls : List (List UInt8)} (hm : ls.length = m) (h1 : 1 ≤ i) (h2 : i ≤ m) (hr : Rd w w.heap.size A (ls.map sv)) (hc : m ≤ c) (h20 : m ≤ 20) (hs : ∀ l ∈ ls, l.length ≤ 60) :
    Calls Tryd.prog 13 #[.slice A m c, .int .i64 (i : Int)] w (PfRet w (prf ls i true)) := by
  have h0 : PRel w ls i (.slice A m c) (.int .i64 (i : Int)) (.slice none 0 0) (.bool true) w := ⟨A, c, ls, m, i, true, [], 0, rfl, hm, hc, rfl, h1, h2, rfl, hr, hs, (by simp), rfl, by omega, nil_ownP _ _ _ _, Below.refl _ _, by rw [List.append_nil]⟩
  have H0 := hid h0
  have HM := hid hm
  have h20' : ls.length ≤ 20 := by omega
  have h2i : (i : Int) ≤ m := by omega
  clear h0 hr hs hm
  go_enter Tryd.func13, Tryd.ntmps13
  go_wp2
  have hb0 : decide ((i : Int) < 1) = false := decide_eq_false (by omega)
  have hb1 : decide (m < i) = false := decide_eq_false (by omega)
  rw [hb0, hb1, Bool.or_self]
  clear hb0 hb1
  go_loopw [0, 1, 6, 7] (fun v0 v1 v6 v7 wr => PRel w ls i v0 v1 v6 v7 wr) (fun v0 _ _ _ _ => slN v0)
  case atStart => exact H0.out
  case round =>
    obtain ⟨A', c', ls', n', i', wh, out, q, rfl, hl', hc', rfl, h1', h2', rfl, hr', hs', ho', hq, hqn, hown, hbr, hpf⟩ := hrel
    rename World => wr
    by_cases hlt : i' < n'
    · have hn20 : n' ≤ 20 := by omega
      obtain ⟨b, off, rfl, hbl, _⟩ := hr'.at_ (k := 0) (by rw [List.length_map]; omega)
      obtain ⟨k, hk⟩ : ∃ k, k = splitN n' := ⟨_, rfl⟩
      have hk1 : 1 ≤ k := hk ▸ split_pos (by omega)
      have hk2 : k < n' := hk ▸ split_lt (by omega)
      have HN := hid (fun w' => rSplit_any w' n' (by omega))
      rw [← hk] at HN
      have hkl : splitN ls'.length = k := by rw [hl', hk]
      have hpl := prf_left (ls := ls') (m := i') wh h1' (by omega)
      have hpr := prf_right (ls := ls') (m := i') wh h1' (by omega)
      rw [hkl] at hpl hpr
      have hbs := hbr.size
      obtain ⟨Ao, co, rfl, _, _, hrdo⟩ := own_form hown
      have hcast : IntKind.u64.wrap (n' : Int) = (n' : Int) := u64_len n' (by omega)
      have hrt := hr'.take k
      have hrd := hr'.dropN k
      rw [← List.map_take] at hrt
      rw [← List.map_drop] at hrd
      have hst : ∀ l ∈ ls'.take k, l.length ≤ 60 := fun l hl => hs' l (List.mem_of_mem_take hl)
      have hsd : ∀ l ∈ ls'.drop k, l.length ≤ 60 := fun l hl => hs' l (List.mem_of_mem_drop hl)
      have hlt' : (ls'.take k).length = k := by rw [List.length_take, hl']; omega
      have hld' : (ls'.drop k).length = n' - k := by rw [List.length_drop, hl']
      have hkc : k ≤ c' := by omega
      have hck : ¬ c' = k := by omega
      have hkn : k ≤ n' := by omega
      have HRT := hid hrt
      have HRD := hid hrd
      have HST := hid hst
      have HSD := hid hsd
      have HLT := hid hlt'
      have HLD := hid hld'
      have HPL := hid hpl
      have HPR := hid hpr
      have HPF := hid hpf
      have HO := hid ho'
      have HQ := hid hq
      clear hrt hrd hst hsd hlt' hld' hpl hpr hpf ho' hr' hs' hk hkl hl' hq
      generalize ls'.take k = lt at *
      generalize ls'.drop k = ld at *
      go_wp2_with fail
      refine (HN.out _).mono ?_
      rintro e w1 ⟨rfl, rfl⟩
      have hcast2 : IntKind.i64.wrap (k : Int) = (k : Int) := wr_i64 _ (by omega) (by omega)
      by_cases hle : i' ≤ k
      · have hlei : (i' : Int) ≤ k := by omega
        go_wp2_with fail
        have hX32 := treeR_len ld
        refine (rRoot_m w1 HLD.out ((HRD.out.below hbr).more hbs) (by omega) (by omega) HSD.out).mono ?_
        rintro e w2 ⟨rfl, hb2⟩
        generalize hX : treeR ld = X at *
        have HX := hid hX
        clear hX
        have hown2 := own_keep hown hb2
        have hbr2 := hbr.trans (hb2.mono hbs)
        have hbs2 := hbr2.size
        have hone := one_own w2 w.heap.size hbs2 hX32
        have hrd2 := (own_rd hown2).below (bx_alloc (Below.refl _ w2) (.cells (Value.agg (X.map cb).toArray).cells 37))
        have hbs3 : w.heap.size ≤ (w2.alloc (.cells (Value.agg (X.map cb).toArray).cells 37)).heap.size := Nat.le_trans hbs2 (by simp)
        have h63 : 1 + q ≤ maxLen := by unfold maxLen; omega
        have hby : (1 + q) * 32 ≤ 140737488355328 := by omega
        have hlo : (out.flatten.map cb).length = q * 32 := by rw [List.length_map, hs_len HO.out, HQ.out]
        have HLO := hid hlo
        have HOW := hid hone
        have HRO := hid hrd2
        clear hlo hone hrd2 hown hown2 hrdo
        go_wp2_with (first
          | ((with_reducible refine wpAtC ?_); refine wpList_gives rfl (gives_slice1 _ _ rfl _ rfl elHs (cells_cb hX32) (by decide) (S := fun v w' => v = .slice (some ⟨w2.heap.size, 0, none⟩) 1 1 ∧ w' = w2.alloc (.cells (Value.agg (X.map cb).toArray).cells 37)) ⟨rfl, rfl⟩) ?_; rintro v6 w6 ⟨rfl, rfl⟩; simp only [Act.put, List.setIfInBounds_toArray, List.set_cons_succ, List.set_cons_zero])
          | (at_builtin; refine wpList_app rfl _ _ _ rfl _ rfl _ _ _ rfl elHs HOW.out HRO.out HLO.out (one_cb _) h63 hby hbs3 ?_; intro v7 w7 hown7 hg7 hat7))
        go_roundw
        case rel => exact ⟨_, c', lt, k, i', wh, X :: out, 1 + q, rfl, HLT.out, hkc, rfl, h1', hle, rfl, HRT.out, HST.out, (fun x hx => (List.mem_cons.1 hx).elim (fun e => e ▸ hX32) (HO.out x)), by rw [List.length_cons, HQ.out]; omega, by omega, by rw [List.flatten_cons, List.map_append]; exact hown7, own_below (hbr2.trans ((bx_alloc (Below.refl _ w2) _).mono hbs2)) HOW.out hg7, by rw [HPF.out, HPL.out hle, List.append_assoc]; rfl⟩
        case measure => simp [slN]; omega
      · have hlei : ¬ (i' : Int) ≤ k := by omega
        have hsub : IntKind.i64.wrap ((i' : Int) - (k : Int)) = ((i' - k : Nat) : Int) := by rw [wr_i64 _ (by omega) (by omega)]; omega
        go_wp2_with fail
        have hX32 := treeR_len lt
        refine (rRoot_m w1 HLT.out ((HRT.out.below hbr).more hbs) (by omega) (by omega) HST.out).mono ?_
        rintro e w2 ⟨rfl, hb2⟩
        generalize hX : treeR lt = X at *
        have HX := hid hX
        clear hX
        have hown2 := own_keep hown hb2
        have hbr2 := hbr.trans (hb2.mono hbs)
        have hbs2 := hbr2.size
        have hone := one_own w2 w.heap.size hbs2 hX32
        have hrd2 := (own_rd hown2).below (bx_alloc (Below.refl _ w2) (.cells (Value.agg (X.map cb).toArray).cells 37))
        have hbs3 : w.heap.size ≤ (w2.alloc (.cells (Value.agg (X.map cb).toArray).cells 37)).heap.size := Nat.le_trans hbs2 (by simp)
        have h63 : 1 + q ≤ maxLen := by unfold maxLen; omega
        have hby : (1 + q) * 32 ≤ 140737488355328 := by omega
        have hlo : (out.flatten.map cb).length = q * 32 := by rw [List.length_map, hs_len HO.out, HQ.out]
        have HLO := hid hlo
        have HOW := hid hone
        have HRO := hid hrd2
        clear hlo hone hrd2 hown hown2 hrdo
        go_wp2_with (first
          | ((with_reducible refine wpAtC ?_); refine wpList_gives rfl (gives_slice1 _ _ rfl _ rfl elHs (cells_cb hX32) (by decide) (S := fun v w' => v = .slice (some ⟨w2.heap.size, 0, none⟩) 1 1 ∧ w' = w2.alloc (.cells (Value.agg (X.map cb).toArray).cells 37)) ⟨rfl, rfl⟩) ?_; rintro v6 w6 ⟨rfl, rfl⟩; simp only [Act.put, List.setIfInBounds_toArray, List.set_cons_succ, List.set_cons_zero])
          | (at_builtin; refine wpList_app rfl _ _ _ rfl _ rfl _ _ _ rfl elHs HOW.out HRO.out HLO.out (one_cb _) h63 hby hbs3 ?_; intro v7 w7 hown7 hg7 hat7))
        go_roundw
        case rel => exact ⟨_, c' - k, ld, n' - k, i' - k, false, X :: out, 1 + q, rfl, HLD.out, by omega, by go_num, by omega, by omega, rfl, HRD.out, HSD.out, (fun x hx => (List.mem_cons.1 hx).elim (fun e => e ▸ hX32) (HO.out x)), by rw [List.length_cons, HQ.out]; omega, by omega, by rw [List.flatten_cons, List.map_append]; exact hown7, own_below (hbr2.trans ((bx_alloc (Below.refl _ w2) _).mono hbs2)) HOW.out hg7, by rw [HPF.out, HPR.out hle, List.append_assoc]; rfl⟩
        case measure => simp [slN]; omega
    · obtain rfl : i' = n' := by omega
      have hpe := prf_end (ls := ls') (m := i') wh (by omega)
      have HS := hid hs'
      have HR := hid hr'
      have HL := hid hl'
      have HO := hid ho'
      have HQ := hid hq
      have hn20 : i' ≤ 20 := by omega
      have hbs := hbr.size
      obtain ⟨Ao, co, rfl, _, _, hrdo⟩ := own_form hown
      have HOWN := hid hown
      clear hs' hr' hl' ho' hq hown hlt
      cases wh with
      | true =>
        rw [hpe] at hpf
        have hpf2 : prf ls i true = out := hpf
        have HPF := hid hpf2
        clear hpf hpf2 hpe
        go_wp2
        go_ret2
        exact ⟨_, rfl, by rw [HPF.out, HQ.out]; exact HOWN.out, hbr⟩
      | false =>
        rw [hpe] at hpf
        have hpf2 : prf ls i true = treeR ls' :: out := hpf
        have HPF := hid hpf2
        clear hpf hpf2 hpe
        go_wp2_with fail
        have hX32 := treeR_len ls'
        refine (rRoot_m _ HL.out ((HR.out.below hbr).more hbs) hc' hn20 HS.out).mono ?_
        rintro e w2 ⟨rfl, hb2⟩
        generalize hX : treeR ls' = X at *
        clear hX
        have hown2 := own_keep HOWN.out hb2
        have hbr2 := hbr.trans (hb2.mono hbs)
        have hbs2 := hbr2.size
        have hone := one_own w2 w.heap.size hbs2 hX32
        have hrd2 := (own_rd hown2).below (bx_alloc (Below.refl _ w2) (.cells (Value.agg (X.map cb).toArray).cells 37))
        have hbs3 : w.heap.size ≤ (w2.alloc (.cells (Value.agg (X.map cb).toArray).cells 37)).heap.size := Nat.le_trans hbs2 (by simp)
        have h63 : 1 + q ≤ maxLen := by unfold maxLen; omega
        have hby : (1 + q) * 32 ≤ 140737488355328 := by omega
        have hlo : (out.flatten.map cb).length = q * 32 := by rw [List.length_map, hs_len HO.out, HQ.out]
        have HLO := hid hlo
        have HOW := hid hone
        have HRO := hid hrd2
        clear hlo hone hrd2 hown2 hrdo
        go_wp2_with (first
          | ((with_reducible refine wpAtC ?_); refine wpList_gives rfl (gives_slice1 _ _ rfl _ rfl elHs (cells_cb hX32) (by decide) (S := fun v w' => v = .slice (some ⟨w2.heap.size, 0, none⟩) 1 1 ∧ w' = w2.alloc (.cells (Value.agg (X.map cb).toArray).cells 37)) ⟨rfl, rfl⟩) ?_; rintro v6 w6 ⟨rfl, rfl⟩; simp only [Act.put, List.setIfInBounds_toArray, List.set_cons_succ, List.set_cons_zero])
          | (at_builtin; refine wpList_app rfl _ _ _ rfl _ rfl _ _ _ rfl elHs HOW.out HRO.out HLO.out (one_cb _) h63 hby hbs3 ?_; intro v7 w7 hown7 hg7 hat7))
        go_ret2
        refine ⟨_, rfl, ?_, own_below (hbr2.trans ((bx_alloc (Below.refl _ w2) _).mono hbs2)) HOW.out hg7⟩
        rw [HPF.out, List.length_cons, HQ.out, List.flatten_cons, List.map_append, Nat.add_comm q 1]
        exact hown7
end Go.Proofs.YtjkolpioglpigaaDoor
