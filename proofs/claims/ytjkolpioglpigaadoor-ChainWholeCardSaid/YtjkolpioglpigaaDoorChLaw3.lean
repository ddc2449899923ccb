
/- ChainWhole: its walk. -/
import Derived.Test.YtjkolpioglpigaaDoorChM
import Derived.Test.YtjkolpioglpigaaDoorChO
namespace Go.Proofs.YtjkolpioglpigaaDoor
open Go.RowKit
set_option linter.unusedVariables false
theorem pth_ok : ∀ (n : Nat) (ls : List (List UInt8)) (i : Nat), ls.length = n → ∀ x ∈ pth ls i, x.length = 32 := by
  intro n
  induction n using Nat.strongRecOn with
  | ind n ih =>
    intro ls i hn
    by_cases h : 2 ≤ n
    · have hlt := split_lt (n := n) (by omega)
      have hpos := split_pos (n := n) (by omega)
      intro x hx
      by_cases hle : i < splitN n
      · rw [pth_left (by omega) (by rw [hn]; exact hle)] at hx
        rcases List.mem_append.1 hx with hx | hx
        · exact ih (splitN n) hlt _ i (by rw [len_take_split, hn]) x hx
        · simp at hx; subst hx; exact treeR_len _
      · rw [pth_right (by omega) (by rw [hn]; exact hle)] at hx
        rcases List.mem_append.1 hx with hx | hx
        · exact ih (n - splitN n) (by omega) _ _ (by rw [List.length_drop, hn]) x hx
        · simp at hx; subst hx; exact treeR_len _
    · intro x hx
      rw [pth_end (by omega)] at hx
      cases hx
set_option maxRecDepth 10000 in
set_option maxHeartbeats 1000000 in
theorem ChainWhole_walk (w : World) (hL : LaidC w) (A : Option Addr) (c : Nat) (ls : List (List UInt8)) (hc : ls.length ≤ c) (hm : c ≤ maxLen) (hs : ∀ l ∈ ls, l.length ≤ maxLen) (hr : RdBB w w.heap.size A ls) :
    Calls Tryd.prog 9 #[.slice A ls.length c] w fun e w' => e = .returned (.bool true) ∧ Below w.heap.size w w' := by
  have HL := hid hL
  have HR := hid hr
  clear hL hr hs
  go_enter Tryd.func9, Tryd.ntmps9
  go_wp2_with fail
  refine (chAwake w HL.out).mono ?_
  rintro e w1 ⟨rfl, hb1⟩
  go_wp2_with fail
  refine (few_any w1 ((HR.out.below hb1).more hb1.size) hc hm).mono ?_
  rintro e w2 ⟨rfl, rfl⟩
  cases hf : fewB ls with
  | false =>
    clear hf
    go_wp2
    go_ret
    exact ⟨rfl, hb1⟩
  | true =>
    obtain ⟨h20, hlen⟩ := fewB_len hf
    have HLEN := hid hlen
    clear hf hlen
    by_cases h0 : ls.length = 0
    · rw [h0]
      clear h0 h20 hc
      go_wp2
      go_ret
      exact ⟨rfl, hb1⟩
    have hpp := prf_pth ls.length ls rfl (by omega)
    have hpl := prf_long (ls := ls) (m := 1) (Nat.le_refl _) (by omega)
    have hple := prf_le ls.length ls 1 true rfl (by omega)
    have HPK := hid (prf_ok ls.length ls 1 true rfl)
    obtain ⟨n, hn⟩ : ∃ n, n = ls.length := ⟨_, rfl⟩
    have hnz : ((n : Int) == 0) = false := by simp; omega
    have hu := u64_len n (by omega)
    rw [← hn] at hpl hple hc h20 h0 ⊢
    have HN := hid hn.symm
    have HPP := hid hpp
    have HPL := hid hpl
    clear hn hpp hpl
    have HF := hid hb1
    clear hb1
    go_wp2_with fail
    refine (Proof_any w1 (HL.out.sha.below HF.out) ls n A c 1 HN.out (Nat.le_refl _) (by omega) ((HR.out.below HF.out).more HF.out.size) hc (by omega) HLEN.out (by omega)).mono ?_
    rintro e w3 ⟨v3, rfl, hown3, hb3⟩
    have HB3 := hid (bx_trans HF.out hb3)
    have HLG := hid (fun w' => Long_any w' 1 n (by decide) (by omega))
    rw [← HPL.out] at HLG
    have HPK2 := HPK
    obtain ⟨P, hP⟩ : ∃ P, P = prf ls 1 true := ⟨_, rfl⟩
    rw [← hP] at HLG HPP HPK hown3 hple
    clear HPK2
    obtain ⟨A3, c3, rfl, _, _, _⟩ := own_form hown3
    have HO3 := hid hown3
    clear hown3 hb3 hP HPL
    go_wp2_with fail
    refine (Path_any w3 (HL.out.sha.below HB3.out) ls n A c 0 HN.out (by omega) ((HR.out.below HB3.out).more HB3.out.size) hc (by omega) HLEN.out (by omega)).mono ?_
    rintro e w4 ⟨v4, rfl, hown4, hb4⟩
    rw [← HPP.out] at hown4
    obtain ⟨A4, c4, rfl, _, _, _⟩ := own_form hown4
    have HB4 := hid (bx_trans HB3.out hb4)
    have HR3 := hid ((own_rd HO3.out).below hb4 |>.more hb4.size)
    have HR4 := hid (own_rd hown4)
    clear hown4 hb4 HO3 HB3
    go_wp2_with fail
    refine (same_any w4 HPK.out HPK.out HR3.out HR4.out (by omega) (by omega)).mono ?_
    rintro e w5 ⟨rfl, hb5⟩
    rw [decide_eq_true rfl]
    have HB5 := hid (bx_trans HB4.out hb5)
    clear hb5 HB4
    go_wp2_with fail
    refine (HLG.out w5).mono ?_
    rintro e w6 ⟨rfl, hb6⟩
    have HB6 := hid (bx_trans HB5.out hb6)
    clear hb6 HB5
    go_wp2
    go_ret
    exact ⟨rfl, HB6.out⟩
end Go.Proofs.YtjkolpioglpigaaDoor
